/- SpansOne: the walk of the law. -/
import Derived.Test.YtkidoggmlafkgaaSpX
namespace Go.Proofs.Ytkidoggmlafkgaa.Span
open Go.RowKit Go.Proofs.Ytkidoggmlafkgaa.Sep

theorem has_one (n m : Int) : hasB [(n, n)] m = decide (m = n) := by
  rw [Bool.eq_iff_iff]
  simp [hasB, inR]
  omega
theorem ok_one {n : Int} (h : minI ≤ n ∧ n ≤ maxI) : ∀ r ∈ [(n, n)], okR r := by
  intro r hr
  obtain rfl := List.mem_singleton.1 hr
  exact ⟨h.1, h.2, h.1, h.2⟩

set_option maxHeartbeats 8000000 in
set_option maxRecDepth 100000 in
theorem one_calls (va : Value) (n m : Int) (s : List Rg) (w : World) (hr : R2 w va s) (ho : ∀ r ∈ s, okR r) (hn : minI ≤ n ∧ n ≤ maxI) :
    Calls Try.prog 8 #[va, .int .i64 n, .int .i64 m] w fun e w' => e = .returned (.bool true) ∧ Below w.heap.size w w' := by
  have H := Lib.hid (St.start w)
  have HV := Lib.hid (fun (W : World) (A : HP) (h : St w.heap.size w W A) => hr.below h.below)
  have HO := Lib.hid (And.intro ho (ok_one hn))
  obtain ⟨A, c, rfl, hc, hcm, -⟩ := hr
  have hl : s.length ≤ 9223372036854775807 := by simp only [maxLen] at hcm; omega
  clear ho hc hcm hn
  by_cases hlen : s.length > 40
  · go_enter Try.func8, Try.ntmps8
    go_wp2_with fail
    refine (awake_calls H.out).mono ?_
    rintro e w1 ⟨rfl, h2⟩
    have H2 := Lib.hid h2
    clear h2 H
    go_wp2
    go_ret
    exact ⟨rfl, H2.out.below⟩
  · go_enter Try.func8, Try.ntmps8
    go_wp2_with fail
    refine (awake_calls H.out).mono ?_
    rintro e w1 ⟨rfl, h2⟩
    have H1 := Lib.hid (show St w.heap.size w (w1.alloc (.cells #[.int .i64 n, .int .i64 n] 32)) (Row2 (.slice (some ⟨w1.heap.size, 0, none⟩) 1 1) [(n, n)] • emp) from lit [(n, n)] (h2.alloc _) rfl (by simp))
    clear h2 H
    go_wp2_with fail
    refine (union_calls _ _ s [(n, n)] H1.out (fun W hW => HV.out W _ hW) (fun W hW => St.r2 hW) (by omega) (by simp) HO.out.1 HO.out.2).mono ?_
    rintro e w2 ⟨v2, u, rfl, u1, u2, u3, u4, u5⟩
    have H2 := Lib.hid u5
    have HU := Lib.hid (And.intro u1 (And.intro (fun k => (u2 k).trans (by rw [has_one])) u4))
    simp only [List.length_singleton] at u3
    clear u1 u2 u4 u5 H1
    go_wp2_with fail
    refine (minus_calls _ _ s [(n, n)] H2.out (fun W hW => HV.out W _ hW) (fun W hW => St.r2 hW.two) (by simp; omega) (by simp) HO.out.1 HO.out.2).mono ?_
    rintro e w3 ⟨v3, d, rfl, u1, u2, d3, u4, u5⟩
    have H3 := Lib.hid u5
    have HD := Lib.hid (And.intro u1 (And.intro (fun k => (u2 k).trans (by rw [has_one])) u4))
    simp only [List.length_singleton] at d3
    clear u1 u2 u4 u5 H2
    go_wp2_with fail
    refine (has_calls v2 u n H3.out (fun W hW => St.r2 hW.two)).mono ?_
    rintro e w4 ⟨rfl, h2⟩
    rw [show hasB u n = true from by rw [HU.out.2.1]; simp]
    have H4 := Lib.hid h2
    clear h2 H3
    go_wp2_with fail
    refine (has_calls v3 d n H4.out (fun W hW => St.r2 hW)).mono ?_
    rintro e w5 ⟨rfl, h2⟩
    rw [show hasB d n = false from by rw [HD.out.2.1]; simp]
    have H5 := Lib.hid h2
    clear h2 H4
    by_cases hmn : m = n
    · have bm : (m == n) = true := by simpa using hmn
      go_wp2_with fail
      refine (union_calls v2 _ u s H5.out (fun W hW => St.r2 hW.two) (fun W hW => HV.out W _ hW) (by omega) (by omega) HU.out.2.2 HO.out.1).mono ?_
      rintro e w6 ⟨v6, t, rfl, u1, u2, -, -, u5⟩
      have et : t = u := uniq u1 HU.out.1 fun k => by
        rw [u2, HU.out.2.1]
        cases hasB s k <;> simp
      subst et
      have H6 := Lib.hid u5
      clear u1 u2 u5 H5
      go_wp2_with fail
      refine (same_calls v6 v2 t t H6.out (fun W hW => St.r2 hW) (fun W hW => St.r2 hW.three)).mono ?_
      rintro e w7 ⟨rfl, h2⟩
      rw [show decide (t = t) = true from decide_eq_true rfl]
      have H7 := Lib.hid h2.drop
      clear h2 H6
      go_wp2_with fail
      refine (meet_calls _ _ s [(n, n)] H7.out (fun W hW => HV.out W _ hW) (fun W hW => St.r2 hW.three) (by simp; omega) HO.out.1 HO.out.2).mono ?_
      rintro e w8 ⟨v8, q, rfl, u1, u2, q3, u4, u5⟩
      have H8 := Lib.hid u5
      have HQ := Lib.hid (And.intro (fun k => (u2 k).trans (by rw [has_one])) u4)
      simp only [List.length_singleton] at q3
      clear u1 u2 u4 u5 H7
      go_wp2_with fail
      refine (union_calls v3 v8 d q H8.out (fun W hW => St.r2 hW.two) (fun W hW => St.r2 hW) (by omega) (by omega) HD.out.2.2 HQ.out.2).mono ?_
      rintro e w9 ⟨v9, y, rfl, u1, u2, -, -, u5⟩
      have H9 := Lib.hid u5
      have HY := Lib.hid (And.intro u1 u2)
      clear u1 u2 u5 H8
      go_wp2_with fail
      refine (norm_calls _ s H9.out (fun W hW => HV.out W _ hW) (by omega) HO.out.1).mono ?_
      rintro e w10 ⟨v10, z, rfl, u1, u2, -, -, u5⟩
      have ey : y = z := uniq HY.out.1 u1 fun k => by
        rw [HY.out.2, HD.out.2.1, HQ.out.1, u2]
        cases hasB s k <;> simp
      subst ey
      have H10 := Lib.hid u5
      clear u1 u2 u5 H9
      go_wp2_with fail
      refine (same_calls v9 v10 y y H10.out (fun W hW => St.r2 hW.two) (fun W hW => St.r2 hW)).mono ?_
      rintro e w11 ⟨rfl, h2⟩
      rw [show decide (y = y) = true from decide_eq_true rfl]
      have H11 := Lib.hid h2.below
      clear h2 H10
      go_wp2
      go_ret
      exact ⟨rfl, H11.out⟩
    · have bm : (m == n) = false := by simpa using hmn
      have HMN := Lib.hid hmn
      clear hmn
      go_wp2_with fail
      refine (has_calls v2 u m H5.out (fun W hW => St.r2 hW.two)).mono ?_
      rintro e w6 ⟨rfl, h2⟩
      rw [show hasB u m = hasB s m from by rw [HU.out.2.1, decide_eq_false HMN.out]; simp]
      have H6 := Lib.hid h2
      clear h2 H5
      go_wp2_with fail
      refine (has_calls _ s m H6.out (fun W hW => HV.out W _ hW)).mono ?_
      rintro e w7 ⟨rfl, h2⟩
      have H7 := Lib.hid h2
      clear h2 H6
      go_wp2_with fail
      refine (has_calls v3 d m H7.out (fun W hW => St.r2 hW)).mono ?_
      rintro e w8 ⟨rfl, h2⟩
      rw [show hasB d m = hasB s m from by rw [HD.out.2.1, decide_eq_false HMN.out]; simp]
      have H8 := Lib.hid h2
      clear h2 H7
      go_wp2_with fail
      refine (has_calls _ s m H8.out (fun W hW => HV.out W _ hW)).mono ?_
      rintro e w9 ⟨rfl, h2⟩
      have H9 := Lib.hid h2
      clear h2 H8
      go_wp2_with fail
      refine (union_calls v2 _ u s H9.out (fun W hW => St.r2 hW.two) (fun W hW => HV.out W _ hW) (by omega) (by omega) HU.out.2.2 HO.out.1).mono ?_
      rintro e w6 ⟨v6, t, rfl, u1, u2, -, -, u5⟩
      have et : t = u := uniq u1 HU.out.1 fun k => by
        rw [u2, HU.out.2.1]
        cases hasB s k <;> simp
      subst et
      have H6 := Lib.hid u5
      clear u1 u2 u5 H9
      go_wp2_with fail
      refine (same_calls v6 v2 t t H6.out (fun W hW => St.r2 hW) (fun W hW => St.r2 hW.three)).mono ?_
      rintro e w7 ⟨rfl, h2⟩
      rw [show decide (t = t) = true from decide_eq_true rfl]
      have H7 := Lib.hid h2.drop
      clear h2 H6
      go_wp2_with fail
      refine (meet_calls _ _ s [(n, n)] H7.out (fun W hW => HV.out W _ hW) (fun W hW => St.r2 hW.three) (by simp; omega) HO.out.1 HO.out.2).mono ?_
      rintro e w8 ⟨v8, q, rfl, u1, u2, q3, u4, u5⟩
      have H8 := Lib.hid u5
      have HQ := Lib.hid (And.intro (fun k => (u2 k).trans (by rw [has_one])) u4)
      simp only [List.length_singleton] at q3
      clear u1 u2 u4 u5 H7
      go_wp2_with fail
      refine (union_calls v3 v8 d q H8.out (fun W hW => St.r2 hW.two) (fun W hW => St.r2 hW) (by omega) (by omega) HD.out.2.2 HQ.out.2).mono ?_
      rintro e w9 ⟨v9, y, rfl, u1, u2, -, -, u5⟩
      have H9 := Lib.hid u5
      have HY := Lib.hid (And.intro u1 u2)
      clear u1 u2 u5 H8
      go_wp2_with fail
      refine (norm_calls _ s H9.out (fun W hW => HV.out W _ hW) (by omega) HO.out.1).mono ?_
      rintro e w10 ⟨v10, z, rfl, u1, u2, -, -, u5⟩
      have ey : y = z := uniq HY.out.1 u1 fun k => by
        rw [HY.out.2, HD.out.2.1, HQ.out.1, u2]
        cases hasB s k <;> simp
      subst ey
      have H10 := Lib.hid u5
      clear u1 u2 u5 H9
      go_wp2_with fail
      refine (same_calls v9 v10 y y H10.out (fun W hW => St.r2 hW.two) (fun W hW => St.r2 hW)).mono ?_
      rintro e w11 ⟨rfl, h2⟩
      rw [show decide (y = y) = true from decide_eq_true rfl]
      have H11 := Lib.hid h2.below
      clear h2 H10
      go_wp2
      go_ret
      exact ⟨rfl, H11.out⟩
end Go.Proofs.Ytkidoggmlafkgaa.Span
