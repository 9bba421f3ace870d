/- BoundsSets: the walk of the law. -/
import Derived.Test.YtkidoggmlafkgaaBdR
namespace Go.Proofs.Ytkidoggmlafkgaa.Bd
open Go.RowKit Go.Proofs.Ytkidoggmlafkgaa.Sep Go.Proofs.Ytkidoggmlafkgaa.Span Go.Proofs.YtkidoggmlafkgaaW.PrintWords

set_option maxHeartbeats 4000000 in
set_option maxRecDepth 100000 in
theorem lawsets_calls (c : Con) (A : Option Addr) (cap : Nat) (vp : Value) (p : List Rg) (w : World) (hl : RC w A c.f5) (hcap : c.f5.length ≤ cap) (hok : ∀ d, okD d c) (hp : R2 w vp p) (hop : ∀ r ∈ p, okR r) :
    Calls Try.prog 9 #[.agg #[.int .i64 c.f0, .int .i64 c.f1, .int .i64 c.f2, .bool c.f3, .bool c.f4, .slice A c.f5.length cap], vp] w fun e w' => e = .returned (.bool true) ∧ Below w.heap.size w w' := by
  have H := Lib.hid ((St.start w).alloc (.cells #[.int .i64 c.f0, .int .i64 c.f1, .int .i64 c.f2, .bool c.f3, .bool c.f4, .slice A c.f5.length cap] 36))
  have HA := Lib.hid (And.intro hl (And.intro hop (fun (W : World) (Q : Sep.HP) (h : St w.heap.size w W Q) => hp.below h.below)))
  have HO := Lib.hid hok
  obtain ⟨Ap, cp, rfl, hcp, hcmp, -⟩ := hp
  have hpl : p.length ≤ 9223372036854775807 := by simp only [maxLen] at hcmp; omega
  clear hl hok hop hcp hcmp
  by_cases hsz : sizeC c ≤ 50
  · have es : decide (sizeC c ≤ 50) = true := decide_eq_true hsz
    by_cases hpl2 : p.length ≤ 10
    · go_enter Try.func9, Try.ntmps9
      go_wp2_with fail
      refine (awake12_calls H.out).mono ?_
      rintro e w1 ⟨rfl, h1⟩
      have H1 := Lib.hid h1
      have b0 := h1.cell 0 rfl
      have b1 := h1.cell 1 rfl
      have b2 := h1.cell 2 rfl
      have b3 := h1.cell 3 rfl
      have b4 := h1.cell 4 rfl
      have b5 := h1.cell 5 rfl
      clear h1 H
      go_wp2_with fail
      refine (few_calls c 50 (by omega) A cap H1.out HA.out.1 hcap).mono ?_
      rintro e w2 ⟨rfl, h2⟩
      have H2 := Lib.hid h2
      clear h2 b0 b1 b2 b3 b4 b5 H1
      have b0 := H2.out.cell 0 rfl
      have b1 := H2.out.cell 1 rfl
      have b2 := H2.out.cell 2 rfl
      have b3 := H2.out.cell 3 rfl
      have b4 := H2.out.cell 4 rfl
      have b5 := H2.out.cell 5 rfl
      go_wp2_with fail
      go_region_held3 (fun w' => w'.cell? ⟨w.heap.size, 0, none⟩ = some (.int .i64 c.f0) ∧ w'.cell? ⟨w.heap.size, 1, none⟩ = some (.int .i64 c.f1) ∧ w'.cell? ⟨w.heap.size, 2, none⟩ = some (.int .i64 c.f2) ∧ w'.cell? ⟨w.heap.size, 3, none⟩ = some (.bool c.f3) ∧ w'.cell? ⟨w.heap.size, 4, none⟩ = some (.bool c.f4) ∧ w'.cell? ⟨w.heap.size, 5, none⟩ = some (.slice A c.f5.length cap))
        (first | exact ⟨b0, b1, b2, b3, b4, b5⟩ | exact ⟨(h5.drop.drop).cell 0 rfl, (h5.drop.drop).cell 1 rfl, (h5.drop.drop).cell 2 rfl, (h5.drop.drop).cell 3 rfl, (h5.drop.drop).cell 4 rfl, (h5.drop.drop).cell 5 rfl⟩ | exact ⟨(h4.drop.drop).cell 0 rfl, (h4.drop.drop).cell 1 rfl, (h4.drop.drop).cell 2 rfl, (h4.drop.drop).cell 3 rfl, (h4.drop.drop).cell 4 rfl, (h4.drop.drop).cell 5 rfl⟩ | exact ⟨(h3.drop).cell 0 rfl, (h3.drop).cell 1 rfl, (h3.drop).cell 2 rfl, (h3.drop).cell 3 rfl, (h3.drop).cell 4 rfl, (h3.drop).cell 5 rfl⟩)
        (first
          | (go_at_call 31; ((with_reducible refine (set_calls c A cap _ p H2.out.drew HA.out.1 hcap (HO.out 40) (by omega) (fun W hW => HA.out.2.2 W _ hW) (by omega) HA.out.2.1).mono ?_); rintro e w3 ⟨v3, u3, rfl, m1, m2, -, -, h3⟩))
          | (go_at_call 32; ((with_reducible refine (rset_calls c A cap _ p h3 HA.out.1 hcap (HO.out 41) (by omega) (fun W hW => HA.out.2.2 W _ hW) (by omega) HA.out.2.1).mono ?_); rintro e w4 ⟨v4, u4, rfl, n1, n2, -, h4⟩))
          | (go_at_call 30; ((with_reducible refine (same12_calls v3 v4 u3 u4 h4 (fun W hW => St.r2 hW.two) (fun W hW => St.r2 hW)).mono ?_); rintro e w5 ⟨rfl, h5⟩; rw [show decide (u3 = u4) = true from decide_eq_true (uniq m1 n1 fun n => by rw [m2, n2])])))
      have H5 := Lib.hid h5.below
      clear m1 m2 n1 n2 h3 h4 h5 b0 b1 b2 b3 b4 b5
      go_wp2
      go_ret
      exact ⟨rfl, H5.out⟩
    · have hpl3 : ¬ (p.length : Int) ≤ 10 := by omega
      have hpl4 : (10 : Int) < (p.length : Int) := by omega
      go_enter Try.func9, Try.ntmps9
      go_wp2_with fail
      refine (awake12_calls H.out).mono ?_
      rintro e w1 ⟨rfl, h1⟩
      have H1 := Lib.hid h1
      have b0 := h1.cell 0 rfl
      have b1 := h1.cell 1 rfl
      have b2 := h1.cell 2 rfl
      have b3 := h1.cell 3 rfl
      have b4 := h1.cell 4 rfl
      have b5 := h1.cell 5 rfl
      clear h1 H
      go_wp2_with fail
      refine (few_calls c 50 (by omega) A cap H1.out HA.out.1 hcap).mono ?_
      rintro e w2 ⟨rfl, h2⟩
      have H2 := Lib.hid h2
      clear h2 b0 b1 b2 b3 b4 b5 H1
      go_wp2
      go_ret
      exact ⟨rfl, H2.out.below⟩
  · have es : decide (sizeC c ≤ 50) = false := decide_eq_false hsz
    go_enter Try.func9, Try.ntmps9
    go_wp2_with fail
    refine (awake12_calls H.out).mono ?_
    rintro e w1 ⟨rfl, h1⟩
    have H1 := Lib.hid h1
    have b0 := h1.cell 0 rfl
    have b1 := h1.cell 1 rfl
    have b2 := h1.cell 2 rfl
    have b3 := h1.cell 3 rfl
    have b4 := h1.cell 4 rfl
    have b5 := h1.cell 5 rfl
    clear h1 H
    go_wp2_with fail
    refine (few_calls c 50 (by omega) A cap H1.out HA.out.1 hcap).mono ?_
    rintro e w2 ⟨rfl, h2⟩
    have H2 := Lib.hid h2
    clear h2 b0 b1 b2 b3 b4 b5 H1
    go_wp2
    go_ret
    exact ⟨rfl, H2.out.below⟩
end Go.Proofs.Ytkidoggmlafkgaa.Bd
