/- only, sized of the reference of layer 8: walked. -/
import Derived.Deep.Cut
import Derived.Test.YtbjddomocggjmaaJAo
namespace Go.Proofs.Ytbjddomocggjmaa.Sc
open Go.RowKit Go.ChangeShapes Go.WideShapes Go.Proofs.Ytbjddomocggjmaa.Sep
open Go.Proofs.YtbjddomocggjmaaW.PrintWords
variable {B : Nat} {w0 w : World} {R : HP}
/-- Which fields are not set. -/
def onlyB (a0 a1 a2 a3 a4 a5 a6 : Bool) (t : Ty) : Bool := (a0 || noS t.n) && (a1 || (t.c.f0 == 0)) && (a2 || !t.e) && (a3 || noS t.fr) && (a4 || ((t.ns.length : Int) + t.mo.length == 0)) && (a5 || ((t.ps.length : Int) + t.ad.length == 0)) && (a6 || ((t.el.length : Int) == 0))
/-- A type's cells, in a block of one's own. -/
theorem ty_cells {g : Nat} {e : TypeId} {t : Ty} {A7 A10 A11 A12 A13 A14 : Option Addr} {c7 c10 c11 c12 c13 c14 : Nat} (h : St B w0 w (Blk g (.cells #[.int .i64 t.k, .string t.n, .int .i64 t.c.f0, .int .i64 t.c.f1, .int .i64 t.c.f2, .bool t.c.f3, .bool t.c.f4, .slice A7 t.c.f5.length c7, .bool t.e, .string t.fr, .slice A10 t.ns.length c10, .slice A11 t.mo.length c11, .slice A12 t.ps.length c12, .slice A13 t.ad.length c13, .slice A14 t.el.length c14] e) • R)) : w.cell? ⟨g, 0, none⟩ = some (.int .i64 t.k) ∧ w.cell? ⟨g, 1, none⟩ = some (.string t.n) ∧ w.cell? ⟨g, 2, none⟩ = some (.int .i64 t.c.f0) ∧ w.cell? ⟨g, 3, none⟩ = some (.int .i64 t.c.f1) ∧ w.cell? ⟨g, 4, none⟩ = some (.int .i64 t.c.f2) ∧ w.cell? ⟨g, 5, none⟩ = some (.bool t.c.f3) ∧ w.cell? ⟨g, 6, none⟩ = some (.bool t.c.f4) ∧ w.cell? ⟨g, 7, none⟩ = some (.slice A7 t.c.f5.length c7) ∧ w.cell? ⟨g, 8, none⟩ = some (.bool t.e) ∧ w.cell? ⟨g, 9, none⟩ = some (.string t.fr) ∧ w.cell? ⟨g, 10, none⟩ = some (.slice A10 t.ns.length c10) ∧ w.cell? ⟨g, 11, none⟩ = some (.slice A11 t.mo.length c11) ∧ w.cell? ⟨g, 12, none⟩ = some (.slice A12 t.ps.length c12) ∧ w.cell? ⟨g, 13, none⟩ = some (.slice A13 t.ad.length c13) ∧ w.cell? ⟨g, 14, none⟩ = some (.slice A14 t.el.length c14) :=
  ⟨h.cell 0 rfl, h.cell 1 rfl, h.cell 2 rfl, h.cell 3 rfl, h.cell 4 rfl, h.cell 5 rfl, h.cell 6 rfl, h.cell 7 rfl, h.cell 8 rfl, h.cell 9 rfl, h.cell 10 rfl, h.cell 11 rfl, h.cell 12 rfl, h.cell 13 rfl, h.cell 14 rfl⟩
theorem cascf4 (a b c d : Bool) : a = false ∨ a = true ∧ (b = false ∨ b = true ∧ (c = false ∨ c = true ∧ (d = false ∨ d = true))) := by
  cases a <;> cases b <;> cases c <;> cases d <;> simp
theorem cascf5 (a b c d e : Bool) : a = false ∨ a = true ∧ (b = false ∨ b = true ∧ (c = false ∨ c = true ∧ (d = false ∨ d = true ∧ (e = false ∨ e = true)))) := by
  cases a <;> cases b <;> cases c <;> cases d <;> cases e <;> simp
theorem cascf6 (a b c d e f : Bool) : a = false ∨ a = true ∧ (b = false ∨ b = true ∧ (c = false ∨ c = true ∧ (d = false ∨ d = true ∧ (e = false ∨ e = true ∧ (f = false ∨ f = true))))) := by
  cases a <;> cases b <;> cases c <;> cases d <;> cases e <;> cases f <;> simp
theorem cascf7 (a b c d e f g : Bool) : a = false ∨ a = true ∧ (b = false ∨ b = true ∧ (c = false ∨ c = true ∧ (d = false ∨ d = true ∧ (e = false ∨ e = true ∧ (f = false ∨ f = true ∧ (g = false ∨ g = true)))))) := by
  cases a <;> cases b <;> cases c <;> cases d <;> cases e <;> cases f <;> cases g <;> simp
set_option maxHeartbeats 16000000 in
set_option maxRecDepth 100000 in
theorem only0_calls (t : Ty) (cs : List Value) (h : S w0 w R) (hK : kTy.K w0 t cs) (ho : oTy t) :
    Calls Try.prog 92 #[.agg cs.toArray, .bool false, .bool false, .bool false, .bool false, .bool false, .bool false, .bool false] w fun e w' => e = .returned (.bool (onlyB false false false false false false false t)) ∧ S w0 w' R := by
  obtain ⟨A7, c7, A10, c10, A11, c11, A12, c12, A13, c13, A14, c14, rfl, -⟩ := kTy_open hK
  show Calls Try.prog 92 #[.agg #[.int .i64 t.k, .string t.n, .int .i64 t.c.f0, .int .i64 t.c.f1, .int .i64 t.c.f2, .bool t.c.f3, .bool t.c.f4, .slice A7 t.c.f5.length c7, .bool t.e, .string t.fr, .slice A10 t.ns.length c10, .slice A11 t.mo.length c11, .slice A12 t.ps.length c12, .slice A13 t.ad.length c13, .slice A14 t.el.length c14], .bool false, .bool false, .bool false, .bool false, .bool false, .bool false, .bool false] w _
  obtain ⟨-, -, -, -, ⟨o1, -⟩, ⟨o2, -⟩, ⟨o3, -⟩, ⟨o4, -⟩, o5, -⟩ := ho 1
  unfold oL M at o1 o2 o3 o4 o5
  have w1 : IntKind.i64.wrap ((t.ns.length : Int) + (t.mo.length : Int)) = (t.ns.length : Int) + t.mo.length := IntWalk.i64_in _ (by omega)
  have w2 : IntKind.i64.wrap ((t.ps.length : Int) + (t.ad.length : Int)) = (t.ps.length : Int) + t.ad.length := IntWalk.i64_in _ (by omega)
  have H := Lib.hid (h.alloc (.cells #[.int .i64 t.k, .string t.n, .int .i64 t.c.f0, .int .i64 t.c.f1, .int .i64 t.c.f2, .bool t.c.f3, .bool t.c.f4, .slice A7 t.c.f5.length c7, .bool t.e, .string t.fr, .slice A10 t.ns.length c10, .slice A11 t.mo.length c11, .slice A12 t.ps.length c12, .slice A13 t.ad.length c13, .slice A14 t.el.length c14] 55))
  obtain ⟨d0, d1, d2, d3, d4, d5, d6, d7, d8, d9, d10, d11, d12, d13, d14⟩ := ty_cells H.out
  have HE : Hid (onlyB false false false false false false false t = ((t.n.toList == ([] : List UInt8)) && (t.c.f0 == 0) && !t.e && (t.fr.toList == ([] : List UInt8)) && ((t.ns.length : Int) + (t.mo.length : Int) == 0) && ((t.ps.length : Int) + (t.ad.length : Int) == 0) && ((t.el.length : Int) == 0))) := Lib.hid (by unfold onlyB noS; simp only [Bool.false_or])
  clear h hK ho o1 o2 o3 o4 o5
  go_enter Try.func92, Try.ntmps92
  go_upto_region 1 with fail
  simp only [List.append_eq, List.cons_append, List.nil_append]
  generalize w.alloc (.cells #[.int .i64 t.k, .string t.n, .int .i64 t.c.f0, .int .i64 t.c.f1, .int .i64 t.c.f2, .bool t.c.f3, .bool t.c.f4, .slice A7 t.c.f5.length c7, .bool t.e, .string t.fr, .slice A10 t.ns.length c10, .slice A11 t.mo.length c11, .slice A12 t.ps.length c12, .slice A13 t.ad.length c13, .slice A14 t.el.length c14] 55) = wx at *
  rcases cascf7 (t.n.toList == ([] : List UInt8)) (t.c.f0 == 0) (!t.e) (t.fr.toList == ([] : List UInt8)) ((t.ns.length : Int) + (t.mo.length : Int) == 0) ((t.ps.length : Int) + (t.ad.length : Int) == 0) ((t.el.length : Int) == 0) with q0 | ⟨q0, q1 | ⟨q1, q2 | ⟨q2, q3 | ⟨q3, q4 | ⟨q4, q5 | ⟨q5, q6 | q6⟩⟩⟩⟩⟩⟩
  all_goals
    try (first | rw [Bool.not_eq_true'] at q2 | rw [Bool.not_eq_false'] at q2)
    go_wp2
    go_ret
    exact ⟨by rw [HE.out]; first | (rw [q0, q1, q2, q3, q4, q5, q6]; rfl) | (rw [q0, q1, q2, q3, q4, q5]; rfl) | (rw [q0, q1, q2, q3, q4]; rfl) | (rw [q0, q1, q2, q3]; rfl) | (rw [q0, q1, q2]; rfl) | (rw [q0, q1]; rfl) | (rw [q0]; rfl), H.out.drop⟩
set_option maxHeartbeats 16000000 in
set_option maxRecDepth 100000 in
theorem only1_calls (t : Ty) (cs : List Value) (h : S w0 w R) (hK : kTy.K w0 t cs) (ho : oTy t) :
    Calls Try.prog 92 #[.agg cs.toArray, .bool false, .bool true, .bool true, .bool false, .bool false, .bool false, .bool false] w fun e w' => e = .returned (.bool (onlyB false true true false false false false t)) ∧ S w0 w' R := by
  obtain ⟨A7, c7, A10, c10, A11, c11, A12, c12, A13, c13, A14, c14, rfl, -⟩ := kTy_open hK
  show Calls Try.prog 92 #[.agg #[.int .i64 t.k, .string t.n, .int .i64 t.c.f0, .int .i64 t.c.f1, .int .i64 t.c.f2, .bool t.c.f3, .bool t.c.f4, .slice A7 t.c.f5.length c7, .bool t.e, .string t.fr, .slice A10 t.ns.length c10, .slice A11 t.mo.length c11, .slice A12 t.ps.length c12, .slice A13 t.ad.length c13, .slice A14 t.el.length c14], .bool false, .bool true, .bool true, .bool false, .bool false, .bool false, .bool false] w _
  obtain ⟨-, -, -, -, ⟨o1, -⟩, ⟨o2, -⟩, ⟨o3, -⟩, ⟨o4, -⟩, o5, -⟩ := ho 1
  unfold oL M at o1 o2 o3 o4 o5
  have w1 : IntKind.i64.wrap ((t.ns.length : Int) + (t.mo.length : Int)) = (t.ns.length : Int) + t.mo.length := IntWalk.i64_in _ (by omega)
  have w2 : IntKind.i64.wrap ((t.ps.length : Int) + (t.ad.length : Int)) = (t.ps.length : Int) + t.ad.length := IntWalk.i64_in _ (by omega)
  have H := Lib.hid (h.alloc (.cells #[.int .i64 t.k, .string t.n, .int .i64 t.c.f0, .int .i64 t.c.f1, .int .i64 t.c.f2, .bool t.c.f3, .bool t.c.f4, .slice A7 t.c.f5.length c7, .bool t.e, .string t.fr, .slice A10 t.ns.length c10, .slice A11 t.mo.length c11, .slice A12 t.ps.length c12, .slice A13 t.ad.length c13, .slice A14 t.el.length c14] 55))
  obtain ⟨d0, d1, d2, d3, d4, d5, d6, d7, d8, d9, d10, d11, d12, d13, d14⟩ := ty_cells H.out
  have HE : Hid (onlyB false true true false false false false t = ((t.n.toList == ([] : List UInt8)) && (t.fr.toList == ([] : List UInt8)) && ((t.ns.length : Int) + (t.mo.length : Int) == 0) && ((t.ps.length : Int) + (t.ad.length : Int) == 0) && ((t.el.length : Int) == 0))) := Lib.hid (by unfold onlyB noS; simp only [Bool.true_or, Bool.false_or, Bool.and_true])
  clear h hK ho o1 o2 o3 o4 o5
  go_enter Try.func92, Try.ntmps92
  go_upto_region 1 with fail
  simp only [List.append_eq, List.cons_append, List.nil_append]
  generalize w.alloc (.cells #[.int .i64 t.k, .string t.n, .int .i64 t.c.f0, .int .i64 t.c.f1, .int .i64 t.c.f2, .bool t.c.f3, .bool t.c.f4, .slice A7 t.c.f5.length c7, .bool t.e, .string t.fr, .slice A10 t.ns.length c10, .slice A11 t.mo.length c11, .slice A12 t.ps.length c12, .slice A13 t.ad.length c13, .slice A14 t.el.length c14] 55) = wx at *
  rcases cascf5 (t.n.toList == ([] : List UInt8)) (t.fr.toList == ([] : List UInt8)) ((t.ns.length : Int) + (t.mo.length : Int) == 0) ((t.ps.length : Int) + (t.ad.length : Int) == 0) ((t.el.length : Int) == 0) with q0 | ⟨q0, q1 | ⟨q1, q2 | ⟨q2, q3 | ⟨q3, q4 | q4⟩⟩⟩⟩
  all_goals
    go_wp2
    go_ret
    exact ⟨by rw [HE.out]; first | (rw [q0, q1, q2, q3, q4]; rfl) | (rw [q0, q1, q2, q3]; rfl) | (rw [q0, q1, q2]; rfl) | (rw [q0, q1]; rfl) | (rw [q0]; rfl), H.out.drop⟩
set_option maxHeartbeats 16000000 in
set_option maxRecDepth 100000 in
theorem only2_calls (t : Ty) (cs : List Value) (h : S w0 w R) (hK : kTy.K w0 t cs) (ho : oTy t) :
    Calls Try.prog 92 #[.agg cs.toArray, .bool false, .bool true, .bool true, .bool true, .bool false, .bool false, .bool false] w fun e w' => e = .returned (.bool (onlyB false true true true false false false t)) ∧ S w0 w' R := by
  obtain ⟨A7, c7, A10, c10, A11, c11, A12, c12, A13, c13, A14, c14, rfl, -⟩ := kTy_open hK
  show Calls Try.prog 92 #[.agg #[.int .i64 t.k, .string t.n, .int .i64 t.c.f0, .int .i64 t.c.f1, .int .i64 t.c.f2, .bool t.c.f3, .bool t.c.f4, .slice A7 t.c.f5.length c7, .bool t.e, .string t.fr, .slice A10 t.ns.length c10, .slice A11 t.mo.length c11, .slice A12 t.ps.length c12, .slice A13 t.ad.length c13, .slice A14 t.el.length c14], .bool false, .bool true, .bool true, .bool true, .bool false, .bool false, .bool false] w _
  obtain ⟨-, -, -, -, ⟨o1, -⟩, ⟨o2, -⟩, ⟨o3, -⟩, ⟨o4, -⟩, o5, -⟩ := ho 1
  unfold oL M at o1 o2 o3 o4 o5
  have w1 : IntKind.i64.wrap ((t.ns.length : Int) + (t.mo.length : Int)) = (t.ns.length : Int) + t.mo.length := IntWalk.i64_in _ (by omega)
  have w2 : IntKind.i64.wrap ((t.ps.length : Int) + (t.ad.length : Int)) = (t.ps.length : Int) + t.ad.length := IntWalk.i64_in _ (by omega)
  have H := Lib.hid (h.alloc (.cells #[.int .i64 t.k, .string t.n, .int .i64 t.c.f0, .int .i64 t.c.f1, .int .i64 t.c.f2, .bool t.c.f3, .bool t.c.f4, .slice A7 t.c.f5.length c7, .bool t.e, .string t.fr, .slice A10 t.ns.length c10, .slice A11 t.mo.length c11, .slice A12 t.ps.length c12, .slice A13 t.ad.length c13, .slice A14 t.el.length c14] 55))
  obtain ⟨d0, d1, d2, d3, d4, d5, d6, d7, d8, d9, d10, d11, d12, d13, d14⟩ := ty_cells H.out
  have HE : Hid (onlyB false true true true false false false t = ((t.n.toList == ([] : List UInt8)) && ((t.ns.length : Int) + (t.mo.length : Int) == 0) && ((t.ps.length : Int) + (t.ad.length : Int) == 0) && ((t.el.length : Int) == 0))) := Lib.hid (by unfold onlyB noS; simp only [Bool.true_or, Bool.false_or, Bool.and_true])
  clear h hK ho o1 o2 o3 o4 o5
  go_enter Try.func92, Try.ntmps92
  go_upto_region 1 with fail
  simp only [List.append_eq, List.cons_append, List.nil_append]
  generalize w.alloc (.cells #[.int .i64 t.k, .string t.n, .int .i64 t.c.f0, .int .i64 t.c.f1, .int .i64 t.c.f2, .bool t.c.f3, .bool t.c.f4, .slice A7 t.c.f5.length c7, .bool t.e, .string t.fr, .slice A10 t.ns.length c10, .slice A11 t.mo.length c11, .slice A12 t.ps.length c12, .slice A13 t.ad.length c13, .slice A14 t.el.length c14] 55) = wx at *
  rcases cascf4 (t.n.toList == ([] : List UInt8)) ((t.ns.length : Int) + (t.mo.length : Int) == 0) ((t.ps.length : Int) + (t.ad.length : Int) == 0) ((t.el.length : Int) == 0) with q0 | ⟨q0, q1 | ⟨q1, q2 | ⟨q2, q3 | q3⟩⟩⟩
  all_goals
    go_wp2
    go_ret
    exact ⟨by rw [HE.out]; first | (rw [q0, q1, q2, q3]; rfl) | (rw [q0, q1, q2]; rfl) | (rw [q0, q1]; rfl) | (rw [q0]; rfl), H.out.drop⟩
set_option maxHeartbeats 16000000 in
set_option maxRecDepth 100000 in
theorem only3_calls (t : Ty) (cs : List Value) (h : S w0 w R) (hK : kTy.K w0 t cs) (ho : oTy t) :
    Calls Try.prog 92 #[.agg cs.toArray, .bool false, .bool false, .bool true, .bool false, .bool true, .bool false, .bool false] w fun e w' => e = .returned (.bool (onlyB false false true false true false false t)) ∧ S w0 w' R := by
  obtain ⟨A7, c7, A10, c10, A11, c11, A12, c12, A13, c13, A14, c14, rfl, -⟩ := kTy_open hK
  show Calls Try.prog 92 #[.agg #[.int .i64 t.k, .string t.n, .int .i64 t.c.f0, .int .i64 t.c.f1, .int .i64 t.c.f2, .bool t.c.f3, .bool t.c.f4, .slice A7 t.c.f5.length c7, .bool t.e, .string t.fr, .slice A10 t.ns.length c10, .slice A11 t.mo.length c11, .slice A12 t.ps.length c12, .slice A13 t.ad.length c13, .slice A14 t.el.length c14], .bool false, .bool false, .bool true, .bool false, .bool true, .bool false, .bool false] w _
  obtain ⟨-, -, -, -, ⟨o1, -⟩, ⟨o2, -⟩, ⟨o3, -⟩, ⟨o4, -⟩, o5, -⟩ := ho 1
  unfold oL M at o1 o2 o3 o4 o5
  have w1 : IntKind.i64.wrap ((t.ns.length : Int) + (t.mo.length : Int)) = (t.ns.length : Int) + t.mo.length := IntWalk.i64_in _ (by omega)
  have w2 : IntKind.i64.wrap ((t.ps.length : Int) + (t.ad.length : Int)) = (t.ps.length : Int) + t.ad.length := IntWalk.i64_in _ (by omega)
  have H := Lib.hid (h.alloc (.cells #[.int .i64 t.k, .string t.n, .int .i64 t.c.f0, .int .i64 t.c.f1, .int .i64 t.c.f2, .bool t.c.f3, .bool t.c.f4, .slice A7 t.c.f5.length c7, .bool t.e, .string t.fr, .slice A10 t.ns.length c10, .slice A11 t.mo.length c11, .slice A12 t.ps.length c12, .slice A13 t.ad.length c13, .slice A14 t.el.length c14] 55))
  obtain ⟨d0, d1, d2, d3, d4, d5, d6, d7, d8, d9, d10, d11, d12, d13, d14⟩ := ty_cells H.out
  have HE : Hid (onlyB false false true false true false false t = ((t.n.toList == ([] : List UInt8)) && (t.c.f0 == 0) && (t.fr.toList == ([] : List UInt8)) && ((t.ps.length : Int) + (t.ad.length : Int) == 0) && ((t.el.length : Int) == 0))) := Lib.hid (by unfold onlyB noS; simp only [Bool.true_or, Bool.false_or, Bool.and_true])
  clear h hK ho o1 o2 o3 o4 o5
  go_enter Try.func92, Try.ntmps92
  go_upto_region 1 with fail
  simp only [List.append_eq, List.cons_append, List.nil_append]
  generalize w.alloc (.cells #[.int .i64 t.k, .string t.n, .int .i64 t.c.f0, .int .i64 t.c.f1, .int .i64 t.c.f2, .bool t.c.f3, .bool t.c.f4, .slice A7 t.c.f5.length c7, .bool t.e, .string t.fr, .slice A10 t.ns.length c10, .slice A11 t.mo.length c11, .slice A12 t.ps.length c12, .slice A13 t.ad.length c13, .slice A14 t.el.length c14] 55) = wx at *
  rcases cascf5 (t.n.toList == ([] : List UInt8)) (t.c.f0 == 0) (t.fr.toList == ([] : List UInt8)) ((t.ps.length : Int) + (t.ad.length : Int) == 0) ((t.el.length : Int) == 0) with q0 | ⟨q0, q1 | ⟨q1, q2 | ⟨q2, q3 | ⟨q3, q4 | q4⟩⟩⟩⟩
  all_goals
    go_wp2
    go_ret
    exact ⟨by rw [HE.out]; first | (rw [q0, q1, q2, q3, q4]; rfl) | (rw [q0, q1, q2, q3]; rfl) | (rw [q0, q1, q2]; rfl) | (rw [q0, q1]; rfl) | (rw [q0]; rfl), H.out.drop⟩
set_option maxHeartbeats 16000000 in
set_option maxRecDepth 100000 in
theorem only4_calls (t : Ty) (cs : List Value) (h : S w0 w R) (hK : kTy.K w0 t cs) (ho : oTy t) :
    Calls Try.prog 92 #[.agg cs.toArray, .bool false, .bool false, .bool true, .bool false, .bool false, .bool true, .bool false] w fun e w' => e = .returned (.bool (onlyB false false true false false true false t)) ∧ S w0 w' R := by
  obtain ⟨A7, c7, A10, c10, A11, c11, A12, c12, A13, c13, A14, c14, rfl, -⟩ := kTy_open hK
  show Calls Try.prog 92 #[.agg #[.int .i64 t.k, .string t.n, .int .i64 t.c.f0, .int .i64 t.c.f1, .int .i64 t.c.f2, .bool t.c.f3, .bool t.c.f4, .slice A7 t.c.f5.length c7, .bool t.e, .string t.fr, .slice A10 t.ns.length c10, .slice A11 t.mo.length c11, .slice A12 t.ps.length c12, .slice A13 t.ad.length c13, .slice A14 t.el.length c14], .bool false, .bool false, .bool true, .bool false, .bool false, .bool true, .bool false] w _
  obtain ⟨-, -, -, -, ⟨o1, -⟩, ⟨o2, -⟩, ⟨o3, -⟩, ⟨o4, -⟩, o5, -⟩ := ho 1
  unfold oL M at o1 o2 o3 o4 o5
  have w1 : IntKind.i64.wrap ((t.ns.length : Int) + (t.mo.length : Int)) = (t.ns.length : Int) + t.mo.length := IntWalk.i64_in _ (by omega)
  have w2 : IntKind.i64.wrap ((t.ps.length : Int) + (t.ad.length : Int)) = (t.ps.length : Int) + t.ad.length := IntWalk.i64_in _ (by omega)
  have H := Lib.hid (h.alloc (.cells #[.int .i64 t.k, .string t.n, .int .i64 t.c.f0, .int .i64 t.c.f1, .int .i64 t.c.f2, .bool t.c.f3, .bool t.c.f4, .slice A7 t.c.f5.length c7, .bool t.e, .string t.fr, .slice A10 t.ns.length c10, .slice A11 t.mo.length c11, .slice A12 t.ps.length c12, .slice A13 t.ad.length c13, .slice A14 t.el.length c14] 55))
  obtain ⟨d0, d1, d2, d3, d4, d5, d6, d7, d8, d9, d10, d11, d12, d13, d14⟩ := ty_cells H.out
  have HE : Hid (onlyB false false true false false true false t = ((t.n.toList == ([] : List UInt8)) && (t.c.f0 == 0) && (t.fr.toList == ([] : List UInt8)) && ((t.ns.length : Int) + (t.mo.length : Int) == 0) && ((t.el.length : Int) == 0))) := Lib.hid (by unfold onlyB noS; simp only [Bool.true_or, Bool.false_or, Bool.and_true])
  clear h hK ho o1 o2 o3 o4 o5
  go_enter Try.func92, Try.ntmps92
  go_upto_region 1 with fail
  simp only [List.append_eq, List.cons_append, List.nil_append]
  generalize w.alloc (.cells #[.int .i64 t.k, .string t.n, .int .i64 t.c.f0, .int .i64 t.c.f1, .int .i64 t.c.f2, .bool t.c.f3, .bool t.c.f4, .slice A7 t.c.f5.length c7, .bool t.e, .string t.fr, .slice A10 t.ns.length c10, .slice A11 t.mo.length c11, .slice A12 t.ps.length c12, .slice A13 t.ad.length c13, .slice A14 t.el.length c14] 55) = wx at *
  rcases cascf5 (t.n.toList == ([] : List UInt8)) (t.c.f0 == 0) (t.fr.toList == ([] : List UInt8)) ((t.ns.length : Int) + (t.mo.length : Int) == 0) ((t.el.length : Int) == 0) with q0 | ⟨q0, q1 | ⟨q1, q2 | ⟨q2, q3 | ⟨q3, q4 | q4⟩⟩⟩⟩
  all_goals
    go_wp2
    go_ret
    exact ⟨by rw [HE.out]; first | (rw [q0, q1, q2, q3, q4]; rfl) | (rw [q0, q1, q2, q3]; rfl) | (rw [q0, q1, q2]; rfl) | (rw [q0, q1]; rfl) | (rw [q0]; rfl), H.out.drop⟩
set_option maxHeartbeats 16000000 in
set_option maxRecDepth 100000 in
theorem only5_calls (t : Ty) (cs : List Value) (h : S w0 w R) (hK : kTy.K w0 t cs) (ho : oTy t) :
    Calls Try.prog 92 #[.agg cs.toArray, .bool false, .bool true, .bool true, .bool false, .bool false, .bool false, .bool true] w fun e w' => e = .returned (.bool (onlyB false true true false false false true t)) ∧ S w0 w' R := by
  obtain ⟨A7, c7, A10, c10, A11, c11, A12, c12, A13, c13, A14, c14, rfl, -⟩ := kTy_open hK
  show Calls Try.prog 92 #[.agg #[.int .i64 t.k, .string t.n, .int .i64 t.c.f0, .int .i64 t.c.f1, .int .i64 t.c.f2, .bool t.c.f3, .bool t.c.f4, .slice A7 t.c.f5.length c7, .bool t.e, .string t.fr, .slice A10 t.ns.length c10, .slice A11 t.mo.length c11, .slice A12 t.ps.length c12, .slice A13 t.ad.length c13, .slice A14 t.el.length c14], .bool false, .bool true, .bool true, .bool false, .bool false, .bool false, .bool true] w _
  obtain ⟨-, -, -, -, ⟨o1, -⟩, ⟨o2, -⟩, ⟨o3, -⟩, ⟨o4, -⟩, o5, -⟩ := ho 1
  unfold oL M at o1 o2 o3 o4 o5
  have w1 : IntKind.i64.wrap ((t.ns.length : Int) + (t.mo.length : Int)) = (t.ns.length : Int) + t.mo.length := IntWalk.i64_in _ (by omega)
  have w2 : IntKind.i64.wrap ((t.ps.length : Int) + (t.ad.length : Int)) = (t.ps.length : Int) + t.ad.length := IntWalk.i64_in _ (by omega)
  have H := Lib.hid (h.alloc (.cells #[.int .i64 t.k, .string t.n, .int .i64 t.c.f0, .int .i64 t.c.f1, .int .i64 t.c.f2, .bool t.c.f3, .bool t.c.f4, .slice A7 t.c.f5.length c7, .bool t.e, .string t.fr, .slice A10 t.ns.length c10, .slice A11 t.mo.length c11, .slice A12 t.ps.length c12, .slice A13 t.ad.length c13, .slice A14 t.el.length c14] 55))
  obtain ⟨d0, d1, d2, d3, d4, d5, d6, d7, d8, d9, d10, d11, d12, d13, d14⟩ := ty_cells H.out
  have HE : Hid (onlyB false true true false false false true t = ((t.n.toList == ([] : List UInt8)) && (t.fr.toList == ([] : List UInt8)) && ((t.ns.length : Int) + (t.mo.length : Int) == 0) && ((t.ps.length : Int) + (t.ad.length : Int) == 0))) := Lib.hid (by unfold onlyB noS; simp only [Bool.true_or, Bool.false_or, Bool.and_true])
  clear h hK ho o1 o2 o3 o4 o5
  go_enter Try.func92, Try.ntmps92
  go_upto_region 1 with fail
  simp only [List.append_eq, List.cons_append, List.nil_append]
  generalize w.alloc (.cells #[.int .i64 t.k, .string t.n, .int .i64 t.c.f0, .int .i64 t.c.f1, .int .i64 t.c.f2, .bool t.c.f3, .bool t.c.f4, .slice A7 t.c.f5.length c7, .bool t.e, .string t.fr, .slice A10 t.ns.length c10, .slice A11 t.mo.length c11, .slice A12 t.ps.length c12, .slice A13 t.ad.length c13, .slice A14 t.el.length c14] 55) = wx at *
  rcases cascf4 (t.n.toList == ([] : List UInt8)) (t.fr.toList == ([] : List UInt8)) ((t.ns.length : Int) + (t.mo.length : Int) == 0) ((t.ps.length : Int) + (t.ad.length : Int) == 0) with q0 | ⟨q0, q1 | ⟨q1, q2 | ⟨q2, q3 | q3⟩⟩⟩
  all_goals
    go_wp2
    go_ret
    exact ⟨by rw [HE.out]; first | (rw [q0, q1, q2, q3]; rfl) | (rw [q0, q1, q2]; rfl) | (rw [q0, q1]; rfl) | (rw [q0]; rfl), H.out.drop⟩
set_option maxHeartbeats 16000000 in
set_option maxRecDepth 100000 in
theorem only6_calls (t : Ty) (cs : List Value) (h : S w0 w R) (hK : kTy.K w0 t cs) (ho : oTy t) :
    Calls Try.prog 92 #[.agg cs.toArray, .bool true, .bool false, .bool false, .bool false, .bool false, .bool false, .bool false] w fun e w' => e = .returned (.bool (onlyB true false false false false false false t)) ∧ S w0 w' R := by
  obtain ⟨A7, c7, A10, c10, A11, c11, A12, c12, A13, c13, A14, c14, rfl, -⟩ := kTy_open hK
  show Calls Try.prog 92 #[.agg #[.int .i64 t.k, .string t.n, .int .i64 t.c.f0, .int .i64 t.c.f1, .int .i64 t.c.f2, .bool t.c.f3, .bool t.c.f4, .slice A7 t.c.f5.length c7, .bool t.e, .string t.fr, .slice A10 t.ns.length c10, .slice A11 t.mo.length c11, .slice A12 t.ps.length c12, .slice A13 t.ad.length c13, .slice A14 t.el.length c14], .bool true, .bool false, .bool false, .bool false, .bool false, .bool false, .bool false] w _
  obtain ⟨-, -, -, -, ⟨o1, -⟩, ⟨o2, -⟩, ⟨o3, -⟩, ⟨o4, -⟩, o5, -⟩ := ho 1
  unfold oL M at o1 o2 o3 o4 o5
  have w1 : IntKind.i64.wrap ((t.ns.length : Int) + (t.mo.length : Int)) = (t.ns.length : Int) + t.mo.length := IntWalk.i64_in _ (by omega)
  have w2 : IntKind.i64.wrap ((t.ps.length : Int) + (t.ad.length : Int)) = (t.ps.length : Int) + t.ad.length := IntWalk.i64_in _ (by omega)
  have H := Lib.hid (h.alloc (.cells #[.int .i64 t.k, .string t.n, .int .i64 t.c.f0, .int .i64 t.c.f1, .int .i64 t.c.f2, .bool t.c.f3, .bool t.c.f4, .slice A7 t.c.f5.length c7, .bool t.e, .string t.fr, .slice A10 t.ns.length c10, .slice A11 t.mo.length c11, .slice A12 t.ps.length c12, .slice A13 t.ad.length c13, .slice A14 t.el.length c14] 55))
  obtain ⟨d0, d1, d2, d3, d4, d5, d6, d7, d8, d9, d10, d11, d12, d13, d14⟩ := ty_cells H.out
  have HE : Hid (onlyB true false false false false false false t = ((t.c.f0 == 0) && !t.e && (t.fr.toList == ([] : List UInt8)) && ((t.ns.length : Int) + (t.mo.length : Int) == 0) && ((t.ps.length : Int) + (t.ad.length : Int) == 0) && ((t.el.length : Int) == 0))) := Lib.hid (by unfold onlyB noS; simp only [Bool.true_or, Bool.false_or, Bool.true_and])
  clear h hK ho o1 o2 o3 o4 o5
  go_enter Try.func92, Try.ntmps92
  go_upto_region 1 with fail
  simp only [List.append_eq, List.cons_append, List.nil_append]
  generalize w.alloc (.cells #[.int .i64 t.k, .string t.n, .int .i64 t.c.f0, .int .i64 t.c.f1, .int .i64 t.c.f2, .bool t.c.f3, .bool t.c.f4, .slice A7 t.c.f5.length c7, .bool t.e, .string t.fr, .slice A10 t.ns.length c10, .slice A11 t.mo.length c11, .slice A12 t.ps.length c12, .slice A13 t.ad.length c13, .slice A14 t.el.length c14] 55) = wx at *
  rcases cascf6 (t.c.f0 == 0) (!t.e) (t.fr.toList == ([] : List UInt8)) ((t.ns.length : Int) + (t.mo.length : Int) == 0) ((t.ps.length : Int) + (t.ad.length : Int) == 0) ((t.el.length : Int) == 0) with q0 | ⟨q0, q1 | ⟨q1, q2 | ⟨q2, q3 | ⟨q3, q4 | ⟨q4, q5 | q5⟩⟩⟩⟩⟩
  all_goals
    try (first | rw [Bool.not_eq_true'] at q1 | rw [Bool.not_eq_false'] at q1)
    go_wp2
    go_ret
    exact ⟨by rw [HE.out]; first | (rw [q0, q1, q2, q3, q4, q5]; rfl) | (rw [q0, q1, q2, q3, q4]; rfl) | (rw [q0, q1, q2, q3]; rfl) | (rw [q0, q1, q2]; rfl) | (rw [q0, q1]; rfl) | (rw [q0]; rfl), H.out.drop⟩
set_option maxHeartbeats 16000000 in
set_option maxRecDepth 100000 in
theorem rsized_calls (t : Ty) (cs : List Value) (h : S w0 w R) (hK : kTy.K w0 t cs) :
    Calls Try.prog 93 #[.agg cs.toArray] w fun e w' => e = .returned (.bool (conB 40 t.c && !(t.e && (t.c.f0 == 0)))) ∧ S w0 w' R := by
  obtain ⟨A7, c7, A10, c10, A11, c11, A12, c12, A13, c13, A14, c14, rfl, -, g7, -⟩ := kTy_open hK
  show Calls Try.prog 93 #[.agg #[.int .i64 t.k, .string t.n, .int .i64 t.c.f0, .int .i64 t.c.f1, .int .i64 t.c.f2, .bool t.c.f3, .bool t.c.f4, .slice A7 t.c.f5.length c7, .bool t.e, .string t.fr, .slice A10 t.ns.length c10, .slice A11 t.mo.length c11, .slice A12 t.ps.length c12, .slice A13 t.ad.length c13, .slice A14 t.el.length c14]] w _
  have H := Lib.hid (h.alloc (.cells #[.int .i64 t.k, .string t.n, .int .i64 t.c.f0, .int .i64 t.c.f1, .int .i64 t.c.f2, .bool t.c.f3, .bool t.c.f4, .slice A7 t.c.f5.length c7, .bool t.e, .string t.fr, .slice A10 t.ns.length c10, .slice A11 t.mo.length c11, .slice A12 t.ps.length c12, .slice A13 t.ad.length c13, .slice A14 t.el.length c14] 55))
  have HC := Lib.hid (rcon40_calls t.c A7 c7 H.out g7)
  obtain ⟨d0, d1, d2, d3, d4, d5, d6, d7, d8, d9, d10, d11, d12, d13, d14⟩ := ty_cells H.out
  clear h hK
  go_enter Try.func93, Try.ntmps93
  go_upto_region 1 with fail
  generalize w.alloc (.cells #[.int .i64 t.k, .string t.n, .int .i64 t.c.f0, .int .i64 t.c.f1, .int .i64 t.c.f2, .bool t.c.f3, .bool t.c.f4, .slice A7 t.c.f5.length c7, .bool t.e, .string t.fr, .slice A10 t.ns.length c10, .slice A11 t.mo.length c11, .slice A12 t.ps.length c12, .slice A13 t.ad.length c13, .slice A14 t.el.length c14] 55) = wx at *
  cases q0 : conB 40 t.c <;> rw [q0] at HC
  · go_wp2_with fail
    refine HC.out.mono ?_
    rintro e w2 ⟨rfl, h2⟩
    have H2 := Lib.hid h2
    clear h2 HC
    go_wp2
    go_ret
    exact ⟨by rw [q0]; rfl, H2.out.drop⟩
  · go_wp2_with fail
    refine HC.out.mono ?_
    rintro e w2 ⟨rfl, h2⟩
    have H2 := Lib.hid h2
    clear h2 HC d0 d1 d2 d3 d4 d5 d6 d7 d8 d9 d10 d11 d12 d13 d14
    obtain ⟨d0, d1, d2, d3, d4, d5, d6, d7, d8, d9, d10, d11, d12, d13, d14⟩ := ty_cells H2.out
    cases q1 : t.e <;> cases q2 : (t.c.f0 == 0)
    all_goals
      go_wp2
      go_ret
      exact ⟨by rw [q0, q1, q2]; rfl, H2.out.drop⟩
end Go.Proofs.Ytbjddomocggjmaa.Sc
