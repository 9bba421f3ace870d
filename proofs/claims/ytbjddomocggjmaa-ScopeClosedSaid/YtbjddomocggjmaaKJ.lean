/- only, sized of the reference of layer 8: walked. -/
import Derived.Deep.Cut
import Derived.Deep.QuietTactic
import Derived.KernelRfl
import Derived.Test.YtbjddomocggjmaaKG
import Derived.Test.YtbjddomocggjmaaKH
import Derived.Test.YtbjddomocggjmaaKI
section
namespace Go.Proofs.Ytbjddomocggjmaa.Sc
open Go.RowKit Go.ChangeShapes Go.WideShapes Go.Proofs.Ytbjddomocggjmaa.Sep
open Go.Proofs.YtbjddomocggjmaaW.PrintWords
variable {B : Nat} {w0 w : World} {R : HP}
def noS (s : ByteArray) : Bool := s.toList == ([] : List UInt8)
def valB (v : Val) : Bool :=
  if 0 < v.f3.length + v.f4.length then false
  else if v.f0 = 1 then noS v.f2 && (decide (v.f1 = 0) || decide (v.f1 = 1))
  else if v.f0 = 2 then noS v.f2 && decide (v.f1 ≠ least)
  else if v.f0 = 3 then decide (v.f1 = 0) && lowerB v.f2.data.toList
  else decide (v.f0 = 7) && (decide (v.f1 = 0) && printB v.f2)
set_option maxHeartbeats 4000000 in
set_option maxRecDepth 100000 in
theorem def_calls (v : Val) (A3 : Option Addr) (c3 : Nat) (A4 : Option Addr) (c4 : Nat) (h : St B w0 w R) (ho : oV 1 v) :
    Calls Try.prog 150 #[.agg #[.int .i64 v.f0, .int .i64 v.f1, .string v.f2, .slice A3 v.f3.length c3, .slice A4 v.f4.length c4]] w fun e w' => e = .returned (.bool (valB v)) ∧ St B w0 w' R := by
  obtain ⟨k, n, s, l3, l4⟩ := v
  obtain ⟨-, -, os, o3, -, o4, -⟩ := ho
  have o3' : l3.length ≤ 140737488355328 := o3
  have o4' : l4.length ≤ 140737488355328 := o4
  show Calls Try.prog 150 #[.agg #[.int .i64 k, .int .i64 n, .string s, .slice A3 l3.length c3, .slice A4 l4.length c4]] w fun e w' => e = .returned (.bool (if 0 < l3.length + l4.length then false
    else if k = 1 then noS s && (decide (n = 0) || decide (n = 1)) else if k = 2 then noS s && decide (n ≠ least) else if k = 3 then decide (n = 0) && lowerB s.data.toList else decide (k = 7) && (decide (n = 0) && printB s))) ∧ St B w0 w' R
  have H := Lib.hid (h.alloc (.cells #[.int .i64 k, .int .i64 n, .string s, .slice A3 l3.length c3, .slice A4 l4.length c4] 147))
  have HL := Lib.hid (fun (W : World) (Q : HP) (h : St B w0 W Q) => lower_calls s h os)
  have HP := Lib.hid (fun (W : World) (Q : HP) (h : St B w0 W Q) => printable_calls s h os)
  have b0 := H.out.cell 0 rfl
  have b1 := H.out.cell 1 rfl
  have b2 := H.out.cell 2 rfl
  have b3 := H.out.cell 3 rfl
  have b4 := H.out.cell 4 rfl
  clear h os o3 o4
  by_cases z : 0 < l3.length + l4.length
  · have z1 : decide (0 < (l3.length : Int) + (l4.length : Int)) = true := decide_eq_true (by omega)
    rw [if_pos z]
    clear z
    go_enter Try.func150, Try.ntmps150
    go_wp2
    go_ret
    exact ⟨rfl, H.out.drop⟩
  have z1 : decide (0 < (l3.length : Int) + (l4.length : Int)) = false := decide_eq_false (by omega)
  rw [if_neg z]
  clear z
  by_cases k1 : k = 1
  · subst k1
    rw [if_pos rfl]
    cases q : noS s with
    | false =>
      rw [Bool.false_and]
      unfold noS at q
      go_enter Try.func150, Try.ntmps150
      go_wp2
      go_ret
      exact ⟨rfl, H.out.drop⟩
    | true =>
      rw [Bool.true_and]
      unfold noS at q
      go_enter Try.func150, Try.ntmps150
      go_wp2
      go_ret
      rw [show (decide (n = 0) || decide (n = 1)) = (n / 2 == 0) by rw [Bool.eq_iff_iff]; simp; omega]
      exact ⟨rfl, H.out.drop⟩
  rw [if_neg k1]
  have m1 : (k == 1) = false := beq_eq_false_iff_ne.2 k1
  by_cases k2 : k = 2
  · subst k2
    rw [if_pos rfl]
    cases q : noS s with
    | false =>
      rw [Bool.false_and]
      unfold noS at q
      go_enter Try.func150, Try.ntmps150
      go_wp2
      go_ret
      exact ⟨rfl, H.out.drop⟩
    | true =>
      rw [Bool.true_and]
      unfold noS at q
      go_enter Try.func150, Try.ntmps150
      go_wp2
      go_ret
      rw [show decide (n ≠ least) = (n != -9223372036854775808) by rw [Bool.eq_iff_iff, decide_eq_true_iff, bne_iff_ne]; rfl]
      exact ⟨rfl, H.out.drop⟩
  rw [if_neg k2]
  have m2 : (k == 2) = false := beq_eq_false_iff_ne.2 k2
  by_cases k3 : k = 3
  · subst k3
    rw [if_pos rfl]
    by_cases n0 : n = 0
    · have n1 : (n == 0) = true := beq_iff_eq.2 n0
      rw [decide_eq_true n0, Bool.true_and]
      clear n0
      go_enter Try.func150, Try.ntmps150
      go_wp2_with fail
      refine (HL.out _ _ H.out).mono ?_
      rintro e w2 ⟨rfl, h2⟩
      have H2 := Lib.hid h2
      clear h2 b0 b1 b2 b3 b4
      go_wp2
      go_ret
      exact ⟨rfl, H2.out.drop⟩
    · have n1 : (n == 0) = false := beq_eq_false_iff_ne.2 n0
      rw [decide_eq_false n0, Bool.false_and]
      clear n0
      go_enter Try.func150, Try.ntmps150
      go_wp2
      go_ret
      exact ⟨rfl, H.out.drop⟩
  rw [if_neg k3]
  have m3 : (k == 3) = false := beq_eq_false_iff_ne.2 k3
  clear k1 k2 k3
  by_cases k7 : k = 7
  · have m7 : (k == 7) = true := beq_iff_eq.2 k7
    rw [decide_eq_true k7, Bool.true_and]
    clear k7
    by_cases n0 : n = 0
    · have n1 : (n == 0) = true := beq_iff_eq.2 n0
      rw [decide_eq_true n0, Bool.true_and]
      clear n0
      go_enter Try.func150, Try.ntmps150
      go_wp2_with fail
      refine (HP.out _ _ H.out).mono ?_
      rintro e w2 ⟨rfl, h2⟩
      have H2 := Lib.hid h2
      clear h2 b0 b1 b2 b3 b4
      go_wp2
      go_ret
      exact ⟨rfl, H2.out.drop⟩
    · have n1 : (n == 0) = false := beq_eq_false_iff_ne.2 n0
      rw [decide_eq_false n0, Bool.false_and]
      clear n0
      go_enter Try.func150, Try.ntmps150
      go_wp2
      go_ret
      exact ⟨rfl, H.out.drop⟩
  · have m7 : (k == 7) = false := beq_eq_false_iff_ne.2 k7
    rw [decide_eq_false k7, Bool.false_and]
    clear k7
    go_enter Try.func150, Try.ntmps150
    go_wp2
    go_ret
    exact ⟨rfl, H.out.drop⟩
end Go.Proofs.Ytbjddomocggjmaa.Sc
end
section
namespace Go.Proofs.Ytbjddomocggjmaa.Sc
open Go.RowKit Go.ChangeShapes Go.WideShapes Go.Proofs.Ytbjddomocggjmaa.Sep
open Go.Proofs.YtbjddomocggjmaaW.PrintWords
variable {B : Nat} {w0 w : World} {R : HP}
/-- A type's cells, in a block of one's own. -/
theorem ty_cells {g : Nat} {e : TypeId} {t : Ty} {A7 A10 A11 A12 A13 A14 : Option Addr} {c7 c10 c11 c12 c13 c14 : Nat} (h : St B w0 w (Blk g (.cells #[.int .i64 t.k, .string t.n, .int .i64 t.c.f0, .int .i64 t.c.f1, .int .i64 t.c.f2, .bool t.c.f3, .bool t.c.f4, .slice A7 t.c.f5.length c7, .bool t.e, .string t.fr, .slice A10 t.ns.length c10, .slice A11 t.mo.length c11, .slice A12 t.ps.length c12, .slice A13 t.ad.length c13, .slice A14 t.el.length c14] e) • R)) : w.cell? ⟨g, 0, none⟩ = some (.int .i64 t.k) ∧ w.cell? ⟨g, 1, none⟩ = some (.string t.n) ∧ w.cell? ⟨g, 2, none⟩ = some (.int .i64 t.c.f0) ∧ w.cell? ⟨g, 3, none⟩ = some (.int .i64 t.c.f1) ∧ w.cell? ⟨g, 4, none⟩ = some (.int .i64 t.c.f2) ∧ w.cell? ⟨g, 5, none⟩ = some (.bool t.c.f3) ∧ w.cell? ⟨g, 6, none⟩ = some (.bool t.c.f4) ∧ w.cell? ⟨g, 7, none⟩ = some (.slice A7 t.c.f5.length c7) ∧ w.cell? ⟨g, 8, none⟩ = some (.bool t.e) ∧ w.cell? ⟨g, 9, none⟩ = some (.string t.fr) ∧ w.cell? ⟨g, 10, none⟩ = some (.slice A10 t.ns.length c10) ∧ w.cell? ⟨g, 11, none⟩ = some (.slice A11 t.mo.length c11) ∧ w.cell? ⟨g, 12, none⟩ = some (.slice A12 t.ps.length c12) ∧ w.cell? ⟨g, 13, none⟩ = some (.slice A13 t.ad.length c13) ∧ w.cell? ⟨g, 14, none⟩ = some (.slice A14 t.el.length c14) :=
  ⟨h.cell 0 rfl, h.cell 1 rfl, h.cell 2 rfl, h.cell 3 rfl, h.cell 4 rfl, h.cell 5 rfl, h.cell 6 rfl, h.cell 7 rfl, h.cell 8 rfl, h.cell 9 rfl, h.cell 10 rfl, h.cell 11 rfl, h.cell 12 rfl, h.cell 13 rfl, h.cell 14 rfl⟩
end Go.Proofs.Ytbjddomocggjmaa.Sc
end
