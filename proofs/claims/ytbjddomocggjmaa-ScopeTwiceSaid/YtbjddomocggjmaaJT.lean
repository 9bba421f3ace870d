/- shape.shaped, Type: walked whole. -/
import Derived.Test.YtbjddomocggjmaaJK
import Derived.Test.YtbjddomocggjmaaJL
import Derived.Test.YtbjddomocggjmaaJM
import Derived.Test.YtbjddomocggjmaaJN
import Derived.Test.YtbjddomocggjmaaJO
import Derived.Test.YtbjddomocggjmaaJP
import Derived.Test.YtbjddomocggjmaaJQ
import Derived.Test.YtbjddomocggjmaaJR
import Derived.Test.YtbjddomocggjmaaJS
namespace Go.Proofs.Ytbjddomocggjmaa.Sc
open Go.RowKit Go.ChangeShapes Go.WideShapes Go.Proofs.Ytbjddomocggjmaa.Sep
open Go.Proofs.YtbjddomocggjmaaW.PrintWords
variable {B : Nat} {w0 w : World} {R : HP}
theorem oTy_parts {t : Ty} (h : oTy t) : oS t.fr ∧ (oL t.ns ∧ ∀ s ∈ t.ns, oS s) ∧ (oL t.mo ∧ ∀ s ∈ t.mo, oS s) ∧ (oL t.ps ∧ ∀ p ∈ t.ps, oPt oTy p) ∧ (oL t.ad ∧ ∀ p ∈ t.ad, oPt oTy p) ∧ (oL t.el ∧ ∀ x ∈ t.el, oTy x) ∧ oS t.n := by
  obtain ⟨-, h1, -, h3, h4, h5, h6, h7, h8, -⟩ := h 1
  refine ⟨h3, h4, h5, ⟨h6.1, fun p hp => ?_⟩, ⟨h7.1, fun p hp => ?_⟩, ⟨h8, fun x hx d => (h (d + 1)).2.2.2.2.2.2.2.2.2 x hx⟩, h1⟩
  · have q := h6.2 p hp
    exact ⟨q.1, fun d => ((h (d + 1)).2.2.2.2.2.2.1.2 p hp).2.1, q.2.2⟩
  · have q := h7.2 p hp
    exact ⟨q.1, fun d => ((h (d + 1)).2.2.2.2.2.2.2.1.2 p hp).2.1, q.2.2⟩
set_option maxRecDepth 100000 in
theorem shaped_zero : ShapedAt w0 0 := by
  intro w R t cs h hK ho
  obtain ⟨A7, c7, A10, c10, A11, c11, A12, c12, A13, c13, A14, c14, rfl, -⟩ := kTy_open (id hK)
  have H := Lib.hid (h.alloc (.cells #[.int .i64 t.k, .string t.n, .int .i64 t.c.f0, .int .i64 t.c.f1, .int .i64 t.c.f2, .bool t.c.f3, .bool t.c.f4, .slice A7 t.c.f5.length c7, .bool t.e, .string t.fr, .slice A10 t.ns.length c10, .slice A11 t.mo.length c11, .slice A12 t.ps.length c12, .slice A13 t.ad.length c13, .slice A14 t.el.length c14] 55))
  have e : shapedB 0 t = false := rfl
  rw [e]
  clear h hK ho e
  show Calls Try.prog 114 #[.agg #[.int .i64 t.k, .string t.n, .int .i64 t.c.f0, .int .i64 t.c.f1, .int .i64 t.c.f2, .bool t.c.f3, .bool t.c.f4, .slice A7 t.c.f5.length c7, .bool t.e, .string t.fr, .slice A10 t.ns.length c10, .slice A11 t.mo.length c11, .slice A12 t.ps.length c12, .slice A13 t.ad.length c13, .slice A14 t.el.length c14], .int .i64 0] w _
  go_enter Try.func114, Try.ntmps114
  go_wp2
  go_ret
  exact ⟨rfl, H.out.drop⟩
theorem shaped_succ (n : Nat) (hn : n ≤ 100) (ih : ShapedAt w0 n) : ShapedAt w0 (n + 1) := by
  intro w R t cs h hK ho
  obtain ⟨A7, c7, A10, c10, A11, c11, A12, c12, A13, c13, A14, c14, rfl, l7, g7, l10, g10, l11, g11, l12, g12, l13, g13, l14, g14⟩ := kTy_open (id hK)
  have hp := oTy_parts ho
  have e : shapedB (n + 1) t = shapedS (shapedB n) t := rfl
  rw [e]
  unfold shapedS
  by_cases k1 : t.k = 1 ∨ t.k = 4
  · rw [if_pos k1]
    rcases k1 with hk | hk
    · exact shaped_1 n hn ih t A7 c7 A10 c10 A11 c11 A12 c12 A13 c13 A14 c14 h l7 g7 g10 g11 g12 g13 g14 hp hk _ rfl
    · exact shaped_4 n hn ih t A7 c7 A10 c10 A11 c11 A12 c12 A13 c13 A14 c14 h l7 g7 g10 g11 g12 g13 g14 hp hk _ rfl
  rw [if_neg k1]
  by_cases k2 : t.k = 2 ∨ t.k = 5 ∨ t.k = 6
  · rw [if_pos k2]
    rcases k2 with hk | hk | hk
    · exact shaped_2 n hn ih t A7 c7 A10 c10 A11 c11 A12 c12 A13 c13 A14 c14 h l7 g7 g10 g11 g12 g13 g14 hp hk _ rfl
    · exact shaped_5 n hn ih t A7 c7 A10 c10 A11 c11 A12 c12 A13 c13 A14 c14 h l7 g7 g10 g11 g12 g13 g14 hp hk _ rfl
    · exact shaped_6 n hn ih t A7 c7 A10 c10 A11 c11 A12 c12 A13 c13 A14 c14 h l7 g7 g10 g11 g12 g13 g14 hp hk _ rfl
  rw [if_neg k2]
  by_cases hk : t.k = 7
  · rw [if_pos hk]
    exact shaped_7 n hn ih t A7 c7 A10 c10 A11 c11 A12 c12 A13 c13 A14 c14 h l7 g7 g10 g11 g12 g13 g14 hp hk _ rfl
  rw [if_neg hk]
  have k7' := hk
  clear hk
  by_cases hk : t.k = 3
  · rw [if_pos hk]
    exact shaped_3 n hn ih t A7 c7 A10 c10 A11 c11 A12 c12 A13 c13 A14 c14 h l7 g7 g10 g11 g12 g13 g14 hp hk _ rfl
  rw [if_neg hk]
  have k3' := hk
  clear hk
  by_cases hk : t.k = 8
  · rw [if_pos hk]
    exact shaped_8 n hn ih t A7 c7 A10 c10 A11 c11 A12 c12 A13 c13 A14 c14 h l7 g7 g10 g11 g12 g13 g14 hp hk _ rfl
  rw [if_neg hk]
  have k8' := hk
  clear hk
  by_cases hk : t.k = 10
  · rw [if_pos hk]
    exact shaped_10 n hn ih t A7 c7 A10 c10 A11 c11 A12 c12 A13 c13 A14 c14 h l7 g7 g10 g11 g12 g13 g14 hp hk _ rfl
  rw [if_neg hk]
  have k10' := hk
  clear hk
  by_cases hk : t.k = 9
  · rw [if_pos hk]
    exact shaped_9 n hn ih t A7 c7 A10 c10 A11 c11 A12 c12 A13 c13 A14 c14 h l7 g7 g10 g11 g12 g13 g14 hp hk _ rfl
  rw [if_neg hk]
  have k9' := hk
  clear hk
  by_cases hk : t.k = 11
  · rw [decide_eq_true hk, Bool.true_and]
    exact shaped_11 n hn ih t A7 c7 A10 c10 A11 c11 A12 c12 A13 c13 A14 c14 h l7 g7 g10 g11 g12 g13 g14 hp hk _ rfl
  rw [decide_eq_false hk]
  simp only [Bool.false_and]
  have HN : t.k ≠ 1 ∧ t.k ≠ 4 ∧ t.k ≠ 2 ∧ t.k ≠ 5 ∧ t.k ≠ 6 ∧ t.k ≠ 7 ∧ t.k ≠ 3 ∧ t.k ≠ 8 ∧ t.k ≠ 10 ∧ t.k ≠ 9 ∧ t.k ≠ 11 := by omega
  exact shaped_0 n hn ih t A7 c7 A10 c10 A11 c11 A12 c12 A13 c13 A14 c14 h l7 g7 g10 g11 g12 g13 g14 hp HN _ rfl
theorem shaped_at (n : Nat) (hn : n ≤ 101) : ShapedAt w0 n := by
  induction n with
  | zero => exact shaped_zero
  | succ n ih => exact shaped_succ n (by omega) (ih (by omega))
set_option maxHeartbeats 4000000 in
set_option maxRecDepth 100000 in
theorem type_calls (t : Ty) (cs : List Value) (h : S w0 w R) (hK : kTy.K w0 t cs) (ho : oTy t) :
    Calls Try.prog 75 #[.agg cs.toArray] w fun e w' => e = .returned (.bool (shapedB 40 t)) ∧ S w0 w' R := by
  have HT := Lib.hid (fun (W : World) (Q : HP) (h : S w0 W Q) => shaped_at (w0 := w0) 40 (by omega) W Q t cs h hK ho)
  obtain ⟨A7, c7, A10, c10, A11, c11, A12, c12, A13, c13, A14, c14, rfl, -⟩ := kTy_open (id hK)
  have H := Lib.hid (h.alloc (.cells #[.int .i64 t.k, .string t.n, .int .i64 t.c.f0, .int .i64 t.c.f1, .int .i64 t.c.f2, .bool t.c.f3, .bool t.c.f4, .slice A7 t.c.f5.length c7, .bool t.e, .string t.fr, .slice A10 t.ns.length c10, .slice A11 t.mo.length c11, .slice A12 t.ps.length c12, .slice A13 t.ad.length c13, .slice A14 t.el.length c14] 55))
  have d0 := H.out.cell 0 rfl
  have d1 := H.out.cell 1 rfl
  have d2 := H.out.cell 2 rfl
  have d3 := H.out.cell 3 rfl
  have d4 := H.out.cell 4 rfl
  have d5 := H.out.cell 5 rfl
  have d6 := H.out.cell 6 rfl
  have d7 := H.out.cell 7 rfl
  have d8 := H.out.cell 8 rfl
  have d9 := H.out.cell 9 rfl
  have d10 := H.out.cell 10 rfl
  have d11 := H.out.cell 11 rfl
  have d12 := H.out.cell 12 rfl
  have d13 := H.out.cell 13 rfl
  have d14 := H.out.cell 14 rfl
  clear h hK ho
  show Calls Try.prog 75 #[.agg #[.int .i64 t.k, .string t.n, .int .i64 t.c.f0, .int .i64 t.c.f1, .int .i64 t.c.f2, .bool t.c.f3, .bool t.c.f4, .slice A7 t.c.f5.length c7, .bool t.e, .string t.fr, .slice A10 t.ns.length c10, .slice A11 t.mo.length c11, .slice A12 t.ps.length c12, .slice A13 t.ad.length c13, .slice A14 t.el.length c14]] w _
  go_enter Try.func75, Try.ntmps75
  go_wp2_with fail
  refine (HT.out _ _ H.out).mono ?_
  rintro e w2 ⟨rfl, h2⟩
  have H2 := Lib.hid h2
  clear h2
  go_wp2
  go_ret
  exact ⟨rfl, H2.out.drop⟩
end Go.Proofs.Ytbjddomocggjmaa.Sc
