/- SpansNorms: the walk of the law. -/
import Derived.Test.YtkidoggmlafkgaaRg
import Derived.Test.YtkidoggmlafkgaaSqA
import Derived.Test.YtkidoggmlafkgaaSpX
namespace Go.Proofs.Ytkidoggmlafkgaa.Span
open Go.RowKit Go.Proofs.Ytkidoggmlafkgaa.Sep

set_option maxHeartbeats 8000000 in
set_option maxRecDepth 100000 in
theorem norms_calls (va : Value) (n : Int) (s : List Rg) (w : World) (hra : R2 w va s) (ho : ∀ r ∈ s, okR r) :
    Calls Try.prog 3 #[va, .int .i64 n] w fun e w' => e = .returned (.bool true) ∧ Below w.heap.size w w' := by
  have H := Lib.hid (St.start w)
  have HA := Lib.hid (fun (W : World) (A : HP) (h : St w.heap.size w W A) => hra.below h.below)
  have HO := Lib.hid ho
  obtain ⟨A, c, rfl, hc, hcm, -⟩ := hra
  have hl : s.length ≤ 9223372036854775807 := by simp only [maxLen] at hcm; omega
  clear ho hc hcm
  by_cases hlen : s.length > 60
  · go_enter Try.func3, Try.ntmps3
    go_wp2_with fail
    refine (awake_calls H.out).mono ?_
    rintro e w1 ⟨rfl, h2⟩
    have H2 := Lib.hid h2
    clear h2 H
    go_wp2
    go_ret
    exact ⟨rfl, H2.out.below⟩
  · go_enter Try.func3, Try.ntmps3
    go_wp2_with fail
    refine (awake_calls H.out).mono ?_
    rintro e w1 ⟨rfl, h2⟩
    have H1 := Lib.hid h2
    clear h2 H
    go_wp2_with fail
    refine (right_calls _ s H1.out (fun W hW => HA.out W _ hW) HO.out).mono ?_
    rintro e w2 ⟨rfl, h2⟩
    have H2 := Lib.hid h2
    clear h2 H1
    have hr2 := rright_calls _ s H2.out (fun W hW => HA.out W _ hW) (by omega) HO.out
    have HR2 := Lib.hid hr2
    clear hr2 H2
    generalize rightB none s = x at HR2 ⊢
    have HX : Hid ((x == x) = true) := Lib.hid (by simp)
    cases x <;> (
      go_wp2_with fail
      refine HR2.out.mono ?_
      rintro e w3 ⟨rfl, h2⟩
      have H3 := Lib.hid h2
      clear h2 HR2 HX
      go_wp2_with fail
      refine (norm_calls _ s H3.out (fun W hW => HA.out W _ hW) (by omega) HO.out).mono ?_
      rintro e w4 ⟨v4, u, rfl, u1, u2, -, -, u5⟩
      have H4 := Lib.hid u5
      clear u5 H3
      go_wp2_with fail
      refine (rnorm_calls _ s H4.out (fun W hW => HA.out W _ hW) (by omega) HO.out).mono ?_
      rintro e w5 ⟨v5, u', rfl, q1, q2, -, -, q5⟩
      have H5 := Lib.hid q5
      clear q5 H4
      go_wp2_with fail
      refine (same_calls v4 v5 u u' H5.out (fun W hW => St.r2 hW.two) (fun W hW => St.r2 hW)).mono ?_
      rintro e w6 ⟨rfl, h6⟩
      rw [show decide (u = u') = true from decide_eq_true (uniq u1 q1 fun k => by rw [u2, q2])]
      have H6 := Lib.hid h6.drop.drop
      clear h6 H5 u1 u2 q1 q2
      go_wp2_with fail
      refine (has_calls _ s n H6.out (fun W hW => HA.out W _ hW)).mono ?_
      rintro e w7 ⟨rfl, h7⟩
      have H7 := Lib.hid h7
      clear h7 H6
      have hr2 := rhas_calls _ s n H7.out (fun W hW => HA.out W _ hW)
      have HR2 := Lib.hid hr2
      clear hr2 H7
      generalize hasB s n = y at HR2 ⊢
      cases y <;> (
        go_wp2_with fail
        refine HR2.out.mono ?_
        rintro e w8 ⟨rfl, h8⟩
        have H8 := Lib.hid h8.below
        clear h8 HR2
        go_wp2
        go_ret
        exact ⟨rfl, H8.out⟩))
end Go.Proofs.Ytkidoggmlafkgaa.Span
