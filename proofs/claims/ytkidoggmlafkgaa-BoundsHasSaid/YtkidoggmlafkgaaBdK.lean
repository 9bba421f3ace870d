/- BoundsHas: the walk of the law. -/
import Derived.Test.YtkidoggmlafkgaaBdR
namespace Go.Proofs.Ytkidoggmlafkgaa.Bd
open Go.RowKit Go.Proofs.Ytkidoggmlafkgaa.Sep Go.Proofs.Ytkidoggmlafkgaa.Span Go.Proofs.YtkidoggmlafkgaaW.PrintWords

set_option maxHeartbeats 4000000 in
set_option maxRecDepth 100000 in
theorem lawbhas_calls (c : Con) (A : Option Addr) (cap : Nat) (vp : Value) (p : List Rg) (n : Int) (w : World) (hl : RC w A c.f5) (hcap : c.f5.length ≤ cap) (hok : ∀ d, okD d c) (hp : R2 w vp p) (hop : ∀ r ∈ p, okR r) :
    Calls Try.prog 12 #[.agg #[.int .i64 c.f0, .int .i64 c.f1, .int .i64 c.f2, .bool c.f3, .bool c.f4, .slice A c.f5.length cap], vp, .int .i64 n] w fun e w' => e = .returned (.bool true) ∧ Below w.heap.size w w' := by
  have H := Lib.hid ((St.start w).alloc (.cells #[.int .i64 c.f0, .int .i64 c.f1, .int .i64 c.f2, .bool c.f3, .bool c.f4, .slice A c.f5.length cap] 36))
  have HA := Lib.hid (And.intro hl (And.intro hop (fun (W : World) (Q : Sep.HP) (h : St w.heap.size w W Q) => hp.below h.below)))
  have HO := Lib.hid hok
  obtain ⟨Ap, cp, rfl, hcp, hcmp, -⟩ := hp
  have hpl : p.length ≤ 9223372036854775807 := by simp only [maxLen] at hcmp; omega
  clear hl hok hop hcp hcmp
  by_cases hsz : sizeC c ≤ 50
  · have es : decide (sizeC c ≤ 50) = true := decide_eq_true hsz
    by_cases hpl2 : p.length ≤ 10
    · go_enter Try.func12, Try.ntmps12
      go_wp2_with fail
      refine (awake12_calls H.out).mono ?_
      rintro e w1 ⟨rfl, h1⟩
      have H1 := Lib.hid h1
      have b0 := h1.cell 0 rfl
      have b1 := h1.cell 1 rfl
      have b2 := h1.cell 2 rfl
      have b3 := h1.cell 3 rfl
      have b4 := h1.cell 4 rfl
      have b5 := h1.cell 5 rfl
      clear h1 H
      go_wp2_with fail
      refine (few_calls c 50 (by omega) A cap H1.out HA.out.1 hcap).mono ?_
      rintro e w2 ⟨rfl, h2⟩
      have H2 := Lib.hid h2
      clear h2 b0 b1 b2 b3 b4 b5 H1
      have b0 := H2.out.cell 0 rfl
      have b1 := H2.out.cell 1 rfl
      have b2 := H2.out.cell 2 rfl
      have b3 := H2.out.cell 3 rfl
      have b4 := H2.out.cell 4 rfl
      have b5 := H2.out.cell 5 rfl
      go_wp2_with fail
      refine (set_calls c A cap _ p H2.out HA.out.1 hcap (HO.out 40) (by omega) (fun W hW => HA.out.2.2 W _ hW) (by omega) HA.out.2.1).mono ?_
      rintro e w3 ⟨v3, u3, rfl, m1, m2, -, m4, h3⟩
      have H3 := Lib.hid h3
      have HM := Lib.hid (And.intro ((rightB_right u3).2 m1) (And.intro (m2 n) m4))
      clear m1 m2 m4 h3 b0 b1 b2 b3 b4 b5 H2
      go_wp2_with fail
      refine (right_calls v3 u3 H3.out (fun W hW => St.r2 hW) HM.out.2.2).mono ?_
      rintro e w4 ⟨rfl, h4⟩
      rw [HM.out.1]
      have H4 := Lib.hid h4
      clear h4 H3
      go_wp2_with fail
      refine (has_calls v3 u3 n H4.out (fun W hW => St.r2 hW)).mono ?_
      rintro e w5 ⟨rfl, h5⟩
      have H5 := Lib.hid h5
      rw [HM.out.2.1]
      clear h5 H4
      have hcall := has_calls (.slice Ap p.length cp) p n H5.out (fun W hW => HA.out.2.2 W _ hW)
      have HC := Lib.hid hcall
      clear hcall
      generalize hasB p n = y at HC ⊢
      have HI := Lib.hid (fun (W : World) (h : St w.heap.size w W _) => in_calls (R := Row2 v3 u3 • Blk w.heap.size (.cells #[.int .i64 c.f0, .int .i64 c.f1, .int .i64 c.f2, .bool c.f3, .bool c.f4, .slice A c.f5.length cap] 36) • emp) c n A cap h HA.out.1 hcap (by omega))
      generalize inB 40 c n = x at HI ⊢
      cases y with
      | false =>
        cases x
        all_goals
          go_wp2_with fail
          refine HC.out.mono ?_
          rintro e w6 ⟨rfl, h6⟩
          have H6 := Lib.hid h6
          clear h6 HC
          go_wp2
          go_ret
          exact ⟨rfl, H6.out.below⟩
      | true =>
        cases x
        all_goals
          go_wp2_with fail
          refine HC.out.mono ?_
          rintro e w6 ⟨rfl, h6⟩
          have H6 := Lib.hid h6
          have b0 := h6.two.cell 0 rfl
          have b1 := h6.two.cell 1 rfl
          have b2 := h6.two.cell 2 rfl
          have b3 := h6.two.cell 3 rfl
          have b4 := h6.two.cell 4 rfl
          have b5 := h6.two.cell 5 rfl
          clear h6 HC
          go_wp2_with fail
          refine (HI.out _ H6.out).mono ?_
          rintro e w7 ⟨rfl, h7⟩
          have H7 := Lib.hid h7.below
          clear h7 b0 b1 b2 b3 b4 b5
          go_wp2
          go_ret
          exact ⟨rfl, H7.out⟩
    · have hpl3 : ¬ (p.length : Int) ≤ 10 := by omega
      have hpl4 : (10 : Int) < (p.length : Int) := by omega
      go_enter Try.func12, Try.ntmps12
      go_wp2_with fail
      refine (awake12_calls H.out).mono ?_
      rintro e w1 ⟨rfl, h1⟩
      have H1 := Lib.hid h1
      have b0 := h1.cell 0 rfl
      have b1 := h1.cell 1 rfl
      have b2 := h1.cell 2 rfl
      have b3 := h1.cell 3 rfl
      have b4 := h1.cell 4 rfl
      have b5 := h1.cell 5 rfl
      clear h1 H
      go_wp2_with fail
      refine (few_calls c 50 (by omega) A cap H1.out HA.out.1 hcap).mono ?_
      rintro e w2 ⟨rfl, h2⟩
      have H2 := Lib.hid h2
      clear h2 b0 b1 b2 b3 b4 b5 H1
      go_wp2
      go_ret
      exact ⟨rfl, H2.out.below⟩
  · have es : decide (sizeC c ≤ 50) = false := decide_eq_false hsz
    go_enter Try.func12, Try.ntmps12
    go_wp2_with fail
    refine (awake12_calls H.out).mono ?_
    rintro e w1 ⟨rfl, h1⟩
    have H1 := Lib.hid h1
    have b0 := h1.cell 0 rfl
    have b1 := h1.cell 1 rfl
    have b2 := h1.cell 2 rfl
    have b3 := h1.cell 3 rfl
    have b4 := h1.cell 4 rfl
    have b5 := h1.cell 5 rfl
    clear h1 H
    go_wp2_with fail
    refine (few_calls c 50 (by omega) A cap H1.out HA.out.1 hcap).mono ?_
    rintro e w2 ⟨rfl, h2⟩
    have H2 := Lib.hid h2
    clear h2 b0 b1 b2 b3 b4 b5 H1
    go_wp2
    go_ret
    exact ⟨rfl, H2.out.below⟩
end Go.Proofs.Ytkidoggmlafkgaa.Bd
