/- SpansDoes: the walk of the law. -/
import Derived.Test.YtkidoggmlafkgaaRg
import Derived.Test.YtkidoggmlafkgaaSpX
namespace Go.Proofs.Ytkidoggmlafkgaa.Span
open Go.RowKit Go.Proofs.Ytkidoggmlafkgaa.Sep

set_option maxHeartbeats 8000000 in
set_option maxRecDepth 100000 in
theorem does_calls (va vb : Value) (a b : List Rg) (w : World) (hra : R2 w va a) (hrb : R2 w vb b) (hoa : ∀ r ∈ a, okR r) (hob : ∀ r ∈ b, okR r) :
    Calls Try.prog 4 #[va, vb] w fun e w' => e = .returned (.bool true) ∧ Below w.heap.size w w' := by
  have H := Lib.hid (St.start w)
  have HA := Lib.hid (fun (W : World) (A : HP) (h : St w.heap.size w W A) => hra.below h.below)
  have HB := Lib.hid (fun (W : World) (A : HP) (h : St w.heap.size w W A) => hrb.below h.below)
  have HO := Lib.hid (And.intro hoa hob)
  obtain ⟨A, c, rfl, hc, hcm, -⟩ := hra
  obtain ⟨A', c', rfl, hc', hcm', -⟩ := hrb
  have hla : a.length ≤ 9223372036854775807 := by simp only [maxLen] at hcm; omega
  have hlb : b.length ≤ 9223372036854775807 := by simp only [maxLen] at hcm'; omega
  clear hoa hob hc hcm hc' hcm'
  by_cases hlen : a.length ≤ 40 ∧ b.length ≤ 40
  · obtain ⟨hl1, hl2⟩ := hlen
    have hm1 : a.length * b.length ≤ 40 * 40 := Nat.mul_le_mul hl1 hl2
    have hm2 : a.length * (b.length + 1) ≤ 40 * 41 := Nat.mul_le_mul hl1 (by omega)
    go_enter Try.func4, Try.ntmps4
    go_wp2_with fail
    refine (awake_calls H.out).mono ?_
    rintro e w1 ⟨rfl, h2⟩
    have H1 := Lib.hid h2
    clear h2 H
    go_wp2_with fail
    refine (union_calls _ _ a b H1.out (fun W hW => HA.out W _ hW) (fun W hW => HB.out W _ hW) (by omega) (by omega) HO.out.1 HO.out.2).mono ?_
    rintro e w2 ⟨v2, s1, rfl, r1, k1, -, -, x5⟩
    have H2 := Lib.hid x5
    clear x5 H1
    go_wp2_with fail
    refine (runion_calls _ _ a b H2.out (fun W hW => HA.out W _ hW) (fun W hW => HB.out W _ hW) (by omega) (by omega) HO.out.1 HO.out.2).mono ?_
    rintro e w3 ⟨v3, s2, rfl, r2, k2, -, -, x5⟩
    have H3 := Lib.hid x5
    clear x5 H2
    go_wp2_with fail
    refine (same_calls v2 v3 s1 s2 H3.out (fun W hW => St.r2 hW.two) (fun W hW => St.r2 hW)).mono ?_
    rintro e w4 ⟨rfl, x5⟩
    rw [show decide (s1 = s2) = true from decide_eq_true (uniq r1 r2 fun k => by rw [k1, k2])]
    have H4 := Lib.hid x5.drop.drop
    clear x5 H3 r1 k1 r2 k2
    go_wp2_with fail
    refine (meet_calls _ _ a b H4.out (fun W hW => HA.out W _ hW) (fun W hW => HB.out W _ hW) (by omega) HO.out.1 HO.out.2).mono ?_
    rintro e w5 ⟨v5, s3, rfl, r1, k1, -, -, x5⟩
    have H5 := Lib.hid x5
    clear x5 H4
    go_wp2_with fail
    refine (rmeet_calls _ _ a b H5.out (fun W hW => HA.out W _ hW) (fun W hW => HB.out W _ hW) (by omega) (by omega) HO.out.1 HO.out.2).mono ?_
    rintro e w6 ⟨v6, s4, rfl, r2, k2, -, -, x5⟩
    have H6 := Lib.hid x5
    clear x5 H5
    go_wp2_with fail
    refine (same_calls v5 v6 s3 s4 H6.out (fun W hW => St.r2 hW.two) (fun W hW => St.r2 hW)).mono ?_
    rintro e w7 ⟨rfl, x5⟩
    rw [show decide (s3 = s4) = true from decide_eq_true (uniq r1 r2 fun k => by rw [k1, k2])]
    have H7 := Lib.hid x5.drop.drop
    clear x5 H6 r1 k1 r2 k2
    go_wp2_with fail
    refine (minus_calls _ _ a b H7.out (fun W hW => HA.out W _ hW) (fun W hW => HB.out W _ hW) (by omega) (by omega) HO.out.1 HO.out.2).mono ?_
    rintro e w8 ⟨v8, s5, rfl, r1, k1, -, -, x5⟩
    have H8 := Lib.hid x5
    clear x5 H7
    go_wp2_with fail
    refine (rminus_calls _ _ a b H8.out (fun W hW => HA.out W _ hW) (fun W hW => HB.out W _ hW) (by omega) (by omega) HO.out.1 HO.out.2).mono ?_
    rintro e w9 ⟨v9, s6, rfl, r2, k2, -, -, x5⟩
    have H9 := Lib.hid x5
    clear x5 H8
    go_wp2_with fail
    refine (same_calls v8 v9 s5 s6 H9.out (fun W hW => St.r2 hW.two) (fun W hW => St.r2 hW)).mono ?_
    rintro e w10 ⟨rfl, x5⟩
    rw [show decide (s5 = s6) = true from decide_eq_true (uniq r1 r2 fun k => by rw [k1, k2])]
    have H10 := Lib.hid x5.below
    clear x5 H9 r1 k1 r2 k2
    go_wp2
    go_ret
    exact ⟨rfl, H10.out⟩
  · by_cases h1 : a.length ≤ 40
    · have h2 : ¬ b.length ≤ 40 := fun h => hlen ⟨h1, h⟩
      clear hlen
      go_enter Try.func4, Try.ntmps4
      go_wp2_with fail
      refine (awake_calls H.out).mono ?_
      rintro e w1 ⟨rfl, h2⟩
      have H2 := Lib.hid h2
      clear h2 H
      go_wp2
      go_ret
      exact ⟨rfl, H2.out.below⟩
    · clear hlen
      go_enter Try.func4, Try.ntmps4
      go_wp2_with fail
      refine (awake_calls H.out).mono ?_
      rintro e w1 ⟨rfl, h2⟩
      have H2 := Lib.hid h2
      clear h2 H
      go_wp2
      go_ret
      exact ⟨rfl, H2.out.below⟩
end Go.Proofs.Ytkidoggmlafkgaa.Span
