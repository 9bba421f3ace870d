/- SpansLaws: the walk of the law. -/
import Derived.Test.YtkidoggmlafkgaaSpX
namespace Go.Proofs.Ytkidoggmlafkgaa.Span
open Go.RowKit Go.Proofs.Ytkidoggmlafkgaa.Sep

set_option maxHeartbeats 8000000 in
set_option maxRecDepth 100000 in
theorem laws_calls (va vb : Value) (a b : List Rg) (w : World) (hra : R2 w va a) (hrb : R2 w vb b) (hoa : ∀ r ∈ a, okR r) (hob : ∀ r ∈ b, okR r) :
    Calls Try.prog 5 #[va, vb] w fun e w' => e = .returned (.bool true) ∧ Below w.heap.size w w' := by
  have H := Lib.hid (St.start w)
  have HA := Lib.hid (fun (W : World) (A : HP) (h : St w.heap.size w W A) => hra.below h.below)
  have HB := Lib.hid (fun (W : World) (A : HP) (h : St w.heap.size w W A) => hrb.below h.below)
  have HO := Lib.hid (And.intro hoa hob)
  obtain ⟨A, c, rfl, hc, hcm, -⟩ := hra
  obtain ⟨A', c', rfl, hc', hcm', -⟩ := hrb
  have hla : a.length ≤ 9223372036854775807 := by simp only [maxLen] at hcm; omega
  have hlb : b.length ≤ 9223372036854775807 := by simp only [maxLen] at hcm'; omega
  clear hoa hob hc hcm hc' hcm'
  by_cases hlen : a.length ≤ 40 ∧ b.length ≤ 40
  · obtain ⟨hl1, hl2⟩ := hlen
    have hm1 : a.length * b.length ≤ 40 * 40 := Nat.mul_le_mul hl1 hl2
    have hm2 : a.length * (b.length + 1) ≤ 40 * 41 := Nat.mul_le_mul hl1 (by omega)
    go_enter Try.func5, Try.ntmps5
    go_wp2_with fail
    refine (awake_calls H.out).mono ?_
    rintro e w1 ⟨rfl, h2⟩
    have H1 := Lib.hid h2
    clear h2 H
    go_wp2_with fail
    refine (whole_calls H1.out).mono ?_
    rintro e w2 ⟨vw, rfl, h2⟩
    have H2 := Lib.hid h2
    clear h2 H1
    go_wp2_with fail
    refine (union_calls _ _ a b H2.out (fun W hW => HA.out W _ hW) (fun W hW => HB.out W _ hW) (by omega) (by omega) HO.out.1 HO.out.2).mono ?_
    rintro e w3 ⟨v3, s1, rfl, rs1, ks1, ls1, os1, x5⟩
    have H3 := Lib.hid x5
    clear x5 H2
    go_wp2_with fail
    refine (union_calls _ _ b a H3.out (fun W hW => HB.out W _ hW) (fun W hW => HA.out W _ hW) (by omega) (by omega) HO.out.2 HO.out.1).mono ?_
    rintro e w4 ⟨v4, s2, rfl, rs2, ks2, ls2, os2, x5⟩
    have H4 := Lib.hid x5
    clear x5 H3
    go_wp2_with fail
    refine (same_calls v3 v4 s1 s2 H4.out (fun W hW => St.r2 hW.two) (fun W hW => St.r2 hW)).mono ?_
    rintro e w5 ⟨rfl, x5⟩
    rw [show decide (s1 = s2) = true from decide_eq_true (uniq rs1 rs2 fun k => by
      rw [ks1, ks2]; cases hasB a k <;> simp)]
    have H5 := Lib.hid x5.drop.drop
    clear x5 H4
    go_wp2_with fail
    refine (meet_calls _ _ a b H5.out (fun W hW => HA.out W _ hW) (fun W hW => HB.out W _ hW) (by omega) HO.out.1 HO.out.2).mono ?_
    rintro e w6 ⟨v6, s3, rfl, rs3, ks3, ls3, os3, x5⟩
    have H6 := Lib.hid x5
    clear x5 H5
    go_wp2_with fail
    refine (meet_calls _ _ b a H6.out (fun W hW => HB.out W _ hW) (fun W hW => HA.out W _ hW) (by rw [Nat.mul_comm]; omega) HO.out.2 HO.out.1).mono ?_
    rintro e w7 ⟨v7, s4, rfl, rs4, ks4, ls4, os4, x5⟩
    have H7 := Lib.hid x5
    clear x5 H6
    go_wp2_with fail
    refine (same_calls v6 v7 s3 s4 H7.out (fun W hW => St.r2 hW.two) (fun W hW => St.r2 hW)).mono ?_
    rintro e w8 ⟨rfl, x5⟩
    rw [show decide (s3 = s4) = true from decide_eq_true (uniq rs3 rs4 fun k => by
      rw [ks3, ks4]; cases hasB a k <;> simp)]
    have H8 := Lib.hid x5.drop.drop
    clear x5 H7
    go_wp2_with fail
    refine (meet_calls _ _ a b H8.out (fun W hW => HA.out W _ hW) (fun W hW => HB.out W _ hW) (by omega) HO.out.1 HO.out.2).mono ?_
    rintro e w9 ⟨v9, s5, rfl, rs5, ks5, ls5, os5, x5⟩
    have H9 := Lib.hid x5
    clear x5 H8
    go_wp2_with fail
    refine (minus_calls _ _ a b H9.out (fun W hW => HA.out W _ hW) (fun W hW => HB.out W _ hW) (by omega) (by omega) HO.out.1 HO.out.2).mono ?_
    rintro e w10 ⟨v10, s6, rfl, rs6, ks6, ls6, os6, x5⟩
    have H10 := Lib.hid x5
    clear x5 H9
    have hm3 : a.length * (s6.length + 1) ≤ 40 * 1641 := Nat.mul_le_mul hl1 (by omega)
    go_wp2_with fail
    refine (minus_calls _ v10 a s6 H10.out (fun W hW => HA.out W _ hW) (fun W hW => St.r2 hW) (by omega) (by omega) HO.out.1 os6).mono ?_
    rintro e w11 ⟨v11, s7, rfl, rs7, ks7, ls7, os7, x5⟩
    have H11 := Lib.hid x5
    clear x5 H10
    go_wp2_with fail
    refine (same_calls v9 v11 s5 s7 H11.out (fun W hW => St.r2 hW.three) (fun W hW => St.r2 hW)).mono ?_
    rintro e w12 ⟨rfl, x5⟩
    rw [show decide (s5 = s7) = true from decide_eq_true (uniq rs5 rs7 fun k => by
      rw [ks5, ks7, ks6]; cases hasB a k <;> simp)]
    have H12 := Lib.hid x5.drop.drop.drop
    clear x5 H11
    go_wp2_with fail
    refine (minus_calls vw _ [(minI, maxI)] a H12.out (fun W hW => St.r2 hW) (fun W hW => HA.out W _ hW) (by simp; omega) (by omega) ok_whole HO.out.1).mono ?_
    rintro e w13 ⟨v13, s8, rfl, rs8, ks8, ls8, os8, x5⟩
    have H13 := Lib.hid x5
    clear x5 H12
    simp only [List.length_singleton, Nat.one_mul] at ls8
    go_wp2_with fail
    refine (minus_calls vw v13 [(minI, maxI)] s8 H13.out (fun W hW => St.r2 hW.two) (fun W hW => St.r2 hW) (by simp; omega) (by omega) ok_whole os8).mono ?_
    rintro e w14 ⟨v14, s9, rfl, rs9, ks9, ls9, os9, x5⟩
    have H14 := Lib.hid x5
    clear x5 H13
    go_wp2_with fail
    refine (norm_calls _ a H14.out (fun W hW => HA.out W _ hW) (by omega) HO.out.1).mono ?_
    rintro e w15 ⟨v15, s10, rfl, rs10, ks10, ls10, os10, x5⟩
    have H15 := Lib.hid x5
    clear x5 H14
    go_wp2_with fail
    refine (same_calls v14 v15 s9 s10 H15.out (fun W hW => St.r2 hW.two) (fun W hW => St.r2 hW)).mono ?_
    rintro e w16 ⟨rfl, x5⟩
    rw [show decide (s9 = s10) = true from decide_eq_true (uniq rs9 rs10 fun k => by
      rw [ks9, ks8, ks10]
      by_cases hn : k < minI ∨ maxI < k
      · rw [hasB_out HO.out.1 hn, hasB_out ok_whole hn]; rfl
      · rw [has_whole k (by omega) (by omega)]; cases hasB a k <;> simp)]
    have H16 := Lib.hid x5.drop.drop.drop
    clear x5 H15
    go_wp2_with fail
    refine (norm_calls _ a H16.out (fun W hW => HA.out W _ hW) (by omega) HO.out.1).mono ?_
    rintro e w17 ⟨v17, s11, rfl, rs11, ks11, ls11, os11, x5⟩
    have H17 := Lib.hid x5
    clear x5 H16
    go_wp2_with fail
    refine (norm_calls v17 s11 H17.out (fun W hW => St.r2 hW) (by omega) os11).mono ?_
    rintro e w18 ⟨v18, s12, rfl, rs12, ks12, ls12, os12, x5⟩
    have H18 := Lib.hid x5
    clear x5 H17
    go_wp2_with fail
    refine (norm_calls _ a H18.out (fun W hW => HA.out W _ hW) (by omega) HO.out.1).mono ?_
    rintro e w19 ⟨v19, s13, rfl, rs13, ks13, ls13, os13, x5⟩
    have H19 := Lib.hid x5
    clear x5 H18
    go_wp2_with fail
    refine (same_calls v18 v19 s12 s13 H19.out (fun W hW => St.r2 hW.two) (fun W hW => St.r2 hW)).mono ?_
    rintro e w20 ⟨rfl, x5⟩
    rw [show decide (s12 = s13) = true from decide_eq_true (uniq rs12 rs13 fun k => by
      rw [ks12, ks11, ks13])]
    have H20 := Lib.hid x5.below
    clear x5 H19
    go_wp2
    go_ret
    exact ⟨rfl, H20.out⟩
  · by_cases h1 : a.length ≤ 40
    · have h2 : ¬ b.length ≤ 40 := fun h => hlen ⟨h1, h⟩
      clear hlen
      go_enter Try.func5, Try.ntmps5
      go_wp2_with fail
      refine (awake_calls H.out).mono ?_
      rintro e w1 ⟨rfl, h2⟩
      have H2 := Lib.hid h2
      clear h2 H
      go_wp2
      go_ret
      exact ⟨rfl, H2.out.below⟩
    · clear hlen
      go_enter Try.func5, Try.ntmps5
      go_wp2_with fail
      refine (awake_calls H.out).mono ?_
      rintro e w1 ⟨rfl, h2⟩
      have H2 := Lib.hid h2
      clear h2 H
      go_wp2
      go_ret
      exact ⟨rfl, H2.out.below⟩
end Go.Proofs.Ytkidoggmlafkgaa.Span
