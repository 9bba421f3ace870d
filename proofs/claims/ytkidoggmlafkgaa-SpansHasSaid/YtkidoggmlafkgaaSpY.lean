/- SpansHas: the walk of the law. -/
import Derived.Test.YtkidoggmlafkgaaSpX
namespace Go.Proofs.Ytkidoggmlafkgaa.Span
open Go.RowKit Go.Proofs.Ytkidoggmlafkgaa.Sep

set_option maxHeartbeats 8000000 in
set_option maxRecDepth 100000 in
theorem lawhas_calls (va vb : Value) (n : Int) (a b : List Rg) (w : World) (hra : R2 w va a) (hrb : R2 w vb b) (hoa : ∀ r ∈ a, okR r) (hob : ∀ r ∈ b, okR r) (hn : minI ≤ n ∧ n ≤ maxI) :
    Calls Try.prog 7 #[va, vb, .int .i64 n] w fun e w' => e = .returned (.bool true) ∧ Below w.heap.size w w' := by
  have H := Lib.hid (St.start w)
  have HA := Lib.hid (fun (W : World) (A : HP) (h : St w.heap.size w W A) => hra.below h.below)
  have HB := Lib.hid (fun (W : World) (A : HP) (h : St w.heap.size w W A) => hrb.below h.below)
  have HO := Lib.hid (And.intro hoa hob)
  have HN := Lib.hid hn
  obtain ⟨A, c, rfl, hc, hcm, -⟩ := hra
  obtain ⟨A', c', rfl, hc', hcm', -⟩ := hrb
  have hla : a.length ≤ 9223372036854775807 := by simp only [maxLen] at hcm; omega
  have hlb : b.length ≤ 9223372036854775807 := by simp only [maxLen] at hcm'; omega
  clear hoa hob hc hcm hc' hcm' hn
  by_cases hlen : a.length ≤ 40 ∧ b.length ≤ 40
  · obtain ⟨hl1, hl2⟩ := hlen
    have hm1 : a.length * b.length ≤ 40 * 40 := Nat.mul_le_mul hl1 hl2
    have hm2 : a.length * (b.length + 1) ≤ 40 * 41 := Nat.mul_le_mul hl1 (by omega)
    go_enter Try.func7, Try.ntmps7
    go_wp2_with fail
    refine (awake_calls H.out).mono ?_
    rintro e w1 ⟨rfl, h2⟩
    have H1 := Lib.hid h2
    clear h2 H
    go_wp2_with fail
    refine (has_calls _ a n H1.out (fun W hW => HA.out W _ hW)).mono ?_
    rintro e w2 ⟨rfl, h2⟩
    have H2 := Lib.hid h2
    clear h2 H1
    go_wp2_with fail
    refine (has_calls _ b n H2.out (fun W hW => HB.out W _ hW)).mono ?_
    rintro e w3 ⟨rfl, h2⟩
    have H3 := Lib.hid h2
    clear h2 H2
    go_wp2_with fail
    refine (union_calls _ _ a b H3.out (fun W hW => HA.out W _ hW) (fun W hW => HB.out W _ hW) (by omega) (by omega) HO.out.1 HO.out.2).mono ?_
    rintro e w4 ⟨v4, u, rfl, u1, u2, -, u4, u5⟩
    have H4 := Lib.hid u5
    have HU := Lib.hid (And.intro (u2 n) (And.intro ((rightB_right u).2 u1) u4))
    clear u1 u2 u4 u5 H3
    go_wp2_with fail
    refine (meet_calls _ _ a b H4.out (fun W hW => HA.out W _ hW) (fun W hW => HB.out W _ hW) (by omega) HO.out.1 HO.out.2).mono ?_
    rintro e w5 ⟨v5, m, rfl, u1, u2, -, u4, u5⟩
    have H5 := Lib.hid u5
    have HM := Lib.hid (And.intro (u2 n) (And.intro ((rightB_right m).2 u1) u4))
    clear u1 u2 u4 u5 H4
    go_wp2_with fail
    refine (minus_calls _ _ a b H5.out (fun W hW => HA.out W _ hW) (fun W hW => HB.out W _ hW) (by omega) (by omega) HO.out.1 HO.out.2).mono ?_
    rintro e w6 ⟨v6, d, rfl, u1, u2, -, u4, u5⟩
    have H6 := Lib.hid u5
    have HD := Lib.hid (And.intro (u2 n) (And.intro ((rightB_right d).2 u1) u4))
    clear u1 u2 u4 u5 H5
    generalize hasB a n = x at HU HM HD ⊢
    generalize hasB b n = y at HU HM HD ⊢
    rcases x with _ | _ <;> rcases y with _ | _ <;> (
      go_wp2_with fail
      refine (has_calls v4 u n H6.out (fun W hW => St.r2 hW.three)).mono ?_
      rintro e w7 ⟨rfl, h2⟩
      rw [HU.out.1]
      have H7 := Lib.hid h2
      clear h2
      go_wp2_with fail
      refine (has_calls v5 m n H7.out (fun W hW => St.r2 hW.two)).mono ?_
      rintro e w8 ⟨rfl, h2⟩
      rw [HM.out.1]
      have H8 := Lib.hid h2
      clear h2
      go_wp2_with fail
      refine (has_calls v6 d n H8.out (fun W hW => St.r2 hW)).mono ?_
      rintro e w9 ⟨rfl, h2⟩
      rw [HD.out.1]
      have H9 := Lib.hid h2
      clear h2
      go_wp2_with fail
      refine (right_calls v4 u H9.out (fun W hW => St.r2 hW.three) HU.out.2.2).mono ?_
      rintro e w10 ⟨rfl, h2⟩
      rw [HU.out.2.1]
      have H10 := Lib.hid h2
      clear h2
      go_wp2_with fail
      refine (right_calls v5 m H10.out (fun W hW => St.r2 hW.two) HM.out.2.2).mono ?_
      rintro e w11 ⟨rfl, h2⟩
      rw [HM.out.2.1]
      have H11 := Lib.hid h2
      clear h2
      go_wp2_with fail
      refine (right_calls v6 d H11.out (fun W hW => St.r2 hW) HD.out.2.2).mono ?_
      rintro e w12 ⟨rfl, h2⟩
      rw [HD.out.2.1]
      have H12 := Lib.hid h2
      clear h2
      go_wp2_with fail
      refine (whole_calls H12.out).mono ?_
      rintro e w13 ⟨v13, rfl, h2⟩
      have H13 := Lib.hid h2
      clear h2
      go_wp2_with fail
      refine (has_calls v13 [(minI, maxI)] n H13.out (fun W hW => St.r2 hW)).mono ?_
      rintro e w14 ⟨rfl, h2⟩
      rw [has_whole n HN.out.1 HN.out.2]
      have H14 := Lib.hid h2.below
      clear h2
      go_wp2
      go_ret
      exact ⟨rfl, H14.out⟩)
  · by_cases h1 : a.length ≤ 40
    · have h2 : ¬ b.length ≤ 40 := fun h => hlen ⟨h1, h⟩
      clear hlen
      go_enter Try.func7, Try.ntmps7
      go_wp2_with fail
      refine (awake_calls H.out).mono ?_
      rintro e w1 ⟨rfl, h2⟩
      have H2 := Lib.hid h2
      clear h2 H
      go_wp2
      go_ret
      exact ⟨rfl, H2.out.below⟩
    · clear hlen
      go_enter Try.func7, Try.ntmps7
      go_wp2_with fail
      refine (awake_calls H.out).mono ?_
      rintro e w1 ⟨rfl, h2⟩
      have H2 := Lib.hid h2
      clear h2 H
      go_wp2
      go_ret
      exact ⟨rfl, H2.out.below⟩
end Go.Proofs.Ytkidoggmlafkgaa.Span
