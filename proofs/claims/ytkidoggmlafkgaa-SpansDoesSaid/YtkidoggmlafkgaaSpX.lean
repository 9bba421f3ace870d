/- SpansApart: the walk of the law. -/
import Derived.Test.YtkidoggmlafkgaaSpW
namespace Go.Proofs.Ytkidoggmlafkgaa.Span
open Go.RowKit Go.Proofs.Ytkidoggmlafkgaa.Sep

theorem right_nil : right [] := ⟨0, trivial⟩
theorem has_whole_eq (n : Int) : hasB [(minI, maxI)] n = (decide (minI ≤ n) && decide (n ≤ maxI)) := by simp [hasB, inR]

set_option maxHeartbeats 4000000 in
theorem apart_calls (va : Value) (s : List Rg) (w : World) (hr : R2 w va s) (ho : ∀ r ∈ s, okR r) :
    Calls Try.prog 6 #[va] w fun e w' => e = .returned (.bool true) ∧ Below w.heap.size w w' := by
  have H := Lib.hid (St.start w)
  have HV := Lib.hid (fun (W : World) (A : HP) (h : St w.heap.size w W A) => hr.below h.below)
  have HO := Lib.hid ho
  obtain ⟨A, c, rfl, hc, hcm, -⟩ := hr
  have hl : s.length ≤ 9223372036854775807 := by simp only [maxLen] at hcm; omega
  clear ho hc hcm
  by_cases hlen : s.length > 40
  · go_enter Try.func6, Try.ntmps6
    go_wp2_with fail
    refine (awake_calls H.out).mono ?_
    rintro e w1 ⟨rfl, h2⟩
    have H2 := Lib.hid h2
    clear h2 H
    go_wp2
    go_ret
    exact ⟨rfl, H2.out.below⟩
  · go_enter Try.func6, Try.ntmps6
    go_wp2_with fail
    refine (awake_calls H.out).mono ?_
    rintro e w1 ⟨rfl, h2⟩
    have H1 := Lib.hid h2
    clear h2 H
    go_wp2_with fail
    refine (whole_calls H1.out).mono ?_
    rintro e w2 ⟨v2, rfl, h2⟩
    have H2 := Lib.hid h2
    clear h2 H1
    go_wp2_with fail
    refine (minus_calls v2 _ [(minI, maxI)] s H2.out (fun W hW => St.r2 hW) (fun W hW => HV.out W _ hW) (by simp; omega) (by omega) ok_whole HO.out).mono ?_
    rintro e w3 ⟨v3, r, rfl, hr1, hr2, hr3, hr4, hr5⟩
    simp only [List.length_singleton, Nat.one_mul] at hr3
    have H3 := Lib.hid hr5.drop2
    have HR := Lib.hid (And.intro hr1 (And.intro hr2 hr4))
    clear hr1 hr2 hr4 hr5 H2
    have hm1 : s.length * r.length ≤ 40 * 41 := Nat.mul_le_mul (by omega) (by omega)
    have hm2 : s.length * (s.length + 1) ≤ 40 * 41 := Nat.mul_le_mul (by omega) (by omega)
    go_wp2_with fail
    refine (meet_calls _ v3 s r H3.out (fun W hW => HV.out W _ hW) (fun W hW => St.r2 hW) (by omega) HO.out HR.out.2.2).mono ?_
    rintro e w4 ⟨v4, u, rfl, hu1, hu2, -, -, hu5⟩
    have eu : u = [] := uniq hu1 right_nil fun n => by
      rw [hu2, HR.out.2.1, hasB_nil]
      cases hasB s n <;> simp
    subst eu
    obtain ⟨_, A4, c4, rfl, -⟩ := id hu5.reads
    have H4 := Lib.hid hu5.drop
    clear hu1 hu2 hu5 H3
    go_wp2_with fail
    refine (union_calls _ v3 s r H4.out (fun W hW => HV.out W _ hW) (fun W hW => St.r2 hW) (by omega) (by omega) HO.out HR.out.2.2).mono ?_
    rintro e w5 ⟨v5, u, rfl, hu1, hu2, -, -, hu5⟩
    have eu : u = [(minI, maxI)] := uniq hu1 right_whole fun n => by
      rw [hu2, HR.out.2.1]
      by_cases hn : n < minI ∨ maxI < n
      · rw [hasB_out HO.out hn, hasB_out ok_whole hn]
        rfl
      · rw [has_whole n (by omega) (by omega)]
        cases hasB s n <;> simp
    subst eu
    have H5 := Lib.hid hu5
    clear hu1 hu2 hu5 H4
    go_wp2_with fail
    refine (whole_calls H5.out).mono ?_
    rintro e w6 ⟨v6, rfl, h6⟩
    have H6 := Lib.hid h6
    clear h6 H5
    go_wp2_with fail
    refine (same_calls v5 v6 [(minI, maxI)] [(minI, maxI)] H6.out (fun W hW => St.r2 hW.two) (fun W hW => St.r2 hW)).mono ?_
    rintro e w7 ⟨rfl, h7⟩
    rw [show decide (([(minI, maxI)] : List Rg) = [(minI, maxI)]) = true from decide_eq_true rfl]
    have H7 := Lib.hid h7
    clear h7 H6
    go_wp2_with fail
    refine (minus_calls _ _ s s H7.out (fun W hW => HV.out W _ hW) (fun W hW => HV.out W _ hW) (by omega) (by omega) HO.out HO.out).mono ?_
    rintro e w8 ⟨v8, u, rfl, hu1, hu2, -, -, hu5⟩
    have eu : u = [] := uniq hu1 right_nil fun n => by
      rw [hu2, hasB_nil]
      cases hasB s n <;> simp
    subst eu
    obtain ⟨_, A8, c8, rfl, -⟩ := id hu5.reads
    have H8 := Lib.hid hu5.below
    clear hu1 hu2 hu5 H7
    go_wp2
    go_ret
    exact ⟨rfl, H8.out⟩
end Go.Proofs.Ytkidoggmlafkgaa.Span
