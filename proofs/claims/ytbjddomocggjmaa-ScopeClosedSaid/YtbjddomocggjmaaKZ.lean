/- What scope's typ makes of a type; what shaped says of its parts; rows of which elements are set anew. -/
import Derived.Test.YtbjddomocggjmaaKL
import Derived.Test.YtbjddomocggjmaaKM
import Derived.Test.YtbjddomocggjmaaKN
import Derived.Test.YtbjddomocggjmaaKO
import Derived.Test.YtbjddomocggjmaaKP
import Derived.Test.YtbjddomocggjmaaKQ
import Derived.Test.YtbjddomocggjmaaKR
import Derived.Test.YtbjddomocggjmaaKS
import Derived.Test.YtbjddomocggjmaaKT
import Derived.Test.YtbjddomocggjmaaKU
import Derived.Test.YtbjddomocggjmaaKX
import Derived.Test.YtbjddomocggjmaaKY
section
namespace Go.Proofs.Ytbjddomocggjmaa.Sc
open Go.RowKit Go.ChangeShapes Go.WideShapes Go.Proofs.Ytbjddomocggjmaa.Sep
open Go.Proofs.YtbjddomocggjmaaW.PrintWords
variable {B : Nat} {w0 w : World} {R : HP}
theorem oTy_parts {t : Ty} (h : oTy t) : oS t.fr ∧ (oL t.ns ∧ ∀ s ∈ t.ns, oS s) ∧ (oL t.mo ∧ ∀ s ∈ t.mo, oS s) ∧ (oL t.ps ∧ ∀ p ∈ t.ps, oPt oTy p) ∧ (oL t.ad ∧ ∀ p ∈ t.ad, oPt oTy p) ∧ (oL t.el ∧ ∀ x ∈ t.el, oTy x) ∧ oS t.n := by
  obtain ⟨-, h1, -, h3, h4, h5, h6, h7, h8, -⟩ := h 1
  refine ⟨h3, h4, h5, ⟨h6.1, fun p hp => ?_⟩, ⟨h7.1, fun p hp => ?_⟩, ⟨h8, fun x hx d => (h (d + 1)).2.2.2.2.2.2.2.2.2 x hx⟩, h1⟩
  · have q := h6.2 p hp
    exact ⟨q.1, fun d => ((h (d + 1)).2.2.2.2.2.2.1.2 p hp).2.1, q.2.2⟩
  · have q := h7.2 p hp
    exact ⟨q.1, fun d => ((h (d + 1)).2.2.2.2.2.2.2.1.2 p hp).2.1, q.2.2⟩
set_option maxRecDepth 100000 in
theorem shaped_zero : ShapedAt w0 0 := by
  intro w R t cs h hK ho
  obtain ⟨A7, c7, A10, c10, A11, c11, A12, c12, A13, c13, A14, c14, rfl, -⟩ := kTy_open (id hK)
  have H := Lib.hid (h.alloc (.cells #[.int .i64 t.k, .string t.n, .int .i64 t.c.f0, .int .i64 t.c.f1, .int .i64 t.c.f2, .bool t.c.f3, .bool t.c.f4, .slice A7 t.c.f5.length c7, .bool t.e, .string t.fr, .slice A10 t.ns.length c10, .slice A11 t.mo.length c11, .slice A12 t.ps.length c12, .slice A13 t.ad.length c13, .slice A14 t.el.length c14] 55))
  have e : shapedB 0 t = false := rfl
  rw [e]
  clear h hK ho e
  show Calls Try.prog 114 #[.agg #[.int .i64 t.k, .string t.n, .int .i64 t.c.f0, .int .i64 t.c.f1, .int .i64 t.c.f2, .bool t.c.f3, .bool t.c.f4, .slice A7 t.c.f5.length c7, .bool t.e, .string t.fr, .slice A10 t.ns.length c10, .slice A11 t.mo.length c11, .slice A12 t.ps.length c12, .slice A13 t.ad.length c13, .slice A14 t.el.length c14], .int .i64 0] w _
  go_enter Try.func114, Try.ntmps114
  go_wp2
  go_ret
  exact ⟨rfl, H.out.drop⟩
theorem shaped_succ (n : Nat) (hn : n ≤ 100) (ih : ShapedAt w0 n) : ShapedAt w0 (n + 1) := by
  intro w R t cs h hK ho
  obtain ⟨A7, c7, A10, c10, A11, c11, A12, c12, A13, c13, A14, c14, rfl, l7, g7, l10, g10, l11, g11, l12, g12, l13, g13, l14, g14⟩ := kTy_open (id hK)
  have hp := oTy_parts ho
  have e : shapedB (n + 1) t = shapedS (shapedB n) t := rfl
  rw [e]
  unfold shapedS
  by_cases k1 : t.k = 1 ∨ t.k = 4
  · rw [if_pos k1]
    rcases k1 with hk | hk
    · exact shaped_1 n hn ih t A7 c7 A10 c10 A11 c11 A12 c12 A13 c13 A14 c14 h l7 g7 g10 g11 g12 g13 g14 hp hk _ rfl
    · exact shaped_4 n hn ih t A7 c7 A10 c10 A11 c11 A12 c12 A13 c13 A14 c14 h l7 g7 g10 g11 g12 g13 g14 hp hk _ rfl
  rw [if_neg k1]
  by_cases k2 : t.k = 2 ∨ t.k = 5 ∨ t.k = 6
  · rw [if_pos k2]
    rcases k2 with hk | hk | hk
    · exact shaped_2 n hn ih t A7 c7 A10 c10 A11 c11 A12 c12 A13 c13 A14 c14 h l7 g7 g10 g11 g12 g13 g14 hp hk _ rfl
    · exact shaped_5 n hn ih t A7 c7 A10 c10 A11 c11 A12 c12 A13 c13 A14 c14 h l7 g7 g10 g11 g12 g13 g14 hp hk _ rfl
    · exact shaped_6 n hn ih t A7 c7 A10 c10 A11 c11 A12 c12 A13 c13 A14 c14 h l7 g7 g10 g11 g12 g13 g14 hp hk _ rfl
  rw [if_neg k2]
  by_cases hk : t.k = 7
  · rw [if_pos hk]
    exact shaped_7 n hn ih t A7 c7 A10 c10 A11 c11 A12 c12 A13 c13 A14 c14 h l7 g7 g10 g11 g12 g13 g14 hp hk _ rfl
  rw [if_neg hk]
  have k7' := hk
  clear hk
  by_cases hk : t.k = 3
  · rw [if_pos hk]
    exact shaped_3 n hn ih t A7 c7 A10 c10 A11 c11 A12 c12 A13 c13 A14 c14 h l7 g7 g10 g11 g12 g13 g14 hp hk _ rfl
  rw [if_neg hk]
  have k3' := hk
  clear hk
  by_cases hk : t.k = 8
  · rw [if_pos hk]
    exact shaped_8 n hn ih t A7 c7 A10 c10 A11 c11 A12 c12 A13 c13 A14 c14 h l7 g7 g10 g11 g12 g13 g14 hp hk _ rfl
  rw [if_neg hk]
  have k8' := hk
  clear hk
  by_cases hk : t.k = 10
  · rw [if_pos hk]
    exact shaped_10 n hn ih t A7 c7 A10 c10 A11 c11 A12 c12 A13 c13 A14 c14 h l7 g7 g10 g11 g12 g13 g14 hp hk _ rfl
  rw [if_neg hk]
  have k10' := hk
  clear hk
  by_cases hk : t.k = 9
  · rw [if_pos hk]
    exact shaped_9 n hn ih t A7 c7 A10 c10 A11 c11 A12 c12 A13 c13 A14 c14 h l7 g7 g10 g11 g12 g13 g14 hp hk _ rfl
  rw [if_neg hk]
  have k9' := hk
  clear hk
  by_cases hk : t.k = 11
  · rw [decide_eq_true hk, Bool.true_and]
    exact shaped_11 n hn ih t A7 c7 A10 c10 A11 c11 A12 c12 A13 c13 A14 c14 h l7 g7 g10 g11 g12 g13 g14 hp hk _ rfl
  rw [decide_eq_false hk]
  simp only [Bool.false_and]
  have HN : t.k ≠ 1 ∧ t.k ≠ 4 ∧ t.k ≠ 2 ∧ t.k ≠ 5 ∧ t.k ≠ 6 ∧ t.k ≠ 7 ∧ t.k ≠ 3 ∧ t.k ≠ 8 ∧ t.k ≠ 10 ∧ t.k ≠ 9 ∧ t.k ≠ 11 := by omega
  exact shaped_0 n hn ih t A7 c7 A10 c10 A11 c11 A12 c12 A13 c13 A14 c14 h l7 g7 g10 g11 g12 g13 g14 hp HN _ rfl
theorem shaped_at (n : Nat) (hn : n ≤ 101) : ShapedAt w0 n := by
  induction n with
  | zero => exact shaped_zero
  | succ n ih => exact shaped_succ n (by omega) (ih (by omega))
set_option maxHeartbeats 4000000 in
set_option maxRecDepth 100000 in
theorem type_calls (t : Ty) (cs : List Value) (h : S w0 w R) (hK : kTy.K w0 t cs) (ho : oTy t) :
    Calls Try.prog 75 #[.agg cs.toArray] w fun e w' => e = .returned (.bool (shapedB 40 t)) ∧ S w0 w' R := by
  have HT := Lib.hid (fun (W : World) (Q : HP) (h : S w0 W Q) => shaped_at (w0 := w0) 40 (by omega) W Q t cs h hK ho)
  obtain ⟨A7, c7, A10, c10, A11, c11, A12, c12, A13, c13, A14, c14, rfl, -⟩ := kTy_open (id hK)
  have H := Lib.hid (h.alloc (.cells #[.int .i64 t.k, .string t.n, .int .i64 t.c.f0, .int .i64 t.c.f1, .int .i64 t.c.f2, .bool t.c.f3, .bool t.c.f4, .slice A7 t.c.f5.length c7, .bool t.e, .string t.fr, .slice A10 t.ns.length c10, .slice A11 t.mo.length c11, .slice A12 t.ps.length c12, .slice A13 t.ad.length c13, .slice A14 t.el.length c14] 55))
  have d0 := H.out.cell 0 rfl
  have d1 := H.out.cell 1 rfl
  have d2 := H.out.cell 2 rfl
  have d3 := H.out.cell 3 rfl
  have d4 := H.out.cell 4 rfl
  have d5 := H.out.cell 5 rfl
  have d6 := H.out.cell 6 rfl
  have d7 := H.out.cell 7 rfl
  have d8 := H.out.cell 8 rfl
  have d9 := H.out.cell 9 rfl
  have d10 := H.out.cell 10 rfl
  have d11 := H.out.cell 11 rfl
  have d12 := H.out.cell 12 rfl
  have d13 := H.out.cell 13 rfl
  have d14 := H.out.cell 14 rfl
  clear h hK ho
  show Calls Try.prog 75 #[.agg #[.int .i64 t.k, .string t.n, .int .i64 t.c.f0, .int .i64 t.c.f1, .int .i64 t.c.f2, .bool t.c.f3, .bool t.c.f4, .slice A7 t.c.f5.length c7, .bool t.e, .string t.fr, .slice A10 t.ns.length c10, .slice A11 t.mo.length c11, .slice A12 t.ps.length c12, .slice A13 t.ad.length c13, .slice A14 t.el.length c14]] w _
  go_enter Try.func75, Try.ntmps75
  go_wp2_with fail
  refine (HT.out _ _ H.out).mono ?_
  rintro e w2 ⟨rfl, h2⟩
  have H2 := Lib.hid h2
  clear h2
  go_wp2
  go_ret
  exact ⟨rfl, H2.out.drop⟩
end Go.Proofs.Ytbjddomocggjmaa.Sc
end
section
namespace Go.Proofs.Ytbjddomocggjmaa.Sc
open Go.RowKit Go.ChangeShapes Go.WideShapes Go.Proofs.Ytbjddomocggjmaa.Sep
open Go.Proofs.YtbjddomocggjmaaW.PrintWords
variable {B : Nat} {w0 w : World} {R : HP}
def mapO {α β : Type} (b : α → Option β) : List α → Option (List β)
  | [] => some []
  | a :: l => match b a, mapO b l with
    | some x, some y => some (x :: y)
    | _, _ => none
theorem mapO_snoc {α β : Type} (b : α → Option β) (a : α) : ∀ l : List α, mapO b (l ++ [a]) = match mapO b l, b a with | some y, some x => some (y ++ [x]) | _, _ => none
  | [] => by cases h : b a <;> simp [mapO, h]
  | c :: l => by
    rw [List.cons_append]
    unfold mapO
    rw [mapO_snoc b a l]
    cases b c <;> cases mapO b l <;> cases b a <;> rfl
theorem mapO_len {α β : Type} (b : α → Option β) : ∀ (l : List α) (y : List β), mapO b l = some y → y.length = l.length
  | [], y, h => by cases h; rfl
  | a :: l, y, h => by
    unfold mapO at h
    cases h1 : b a with
    | none => rw [h1] at h; cases h
    | some x =>
      cases h2 : mapO b l with
      | none => rw [h1, h2] at h; cases h
      | some z =>
        rw [h1, h2] at h
        cases h
        simp [mapO_len b l z h2]
theorem mapO_take {α β : Type} {b : α → Option β} {l : List α} {j : Nat} {a : α} {x : β} {y : List β} (hj : l[j]? = some a) (h : mapO b (l.take j) = some y) (ha : b a = some x) : mapO b (l.take (j + 1)) = some (y ++ [x]) := by
  have e : l.take (j + 1) = l.take j ++ [a] := by rw [List.take_add_one, hj]; rfl
  rw [e, mapO_snoc, h, ha]
theorem mapO_none {α β : Type} {b : α → Option β} : ∀ {l : List α} {a : α}, a ∈ l → b a = none → mapO b l = none
  | c :: l, a, h, ha => by
    unfold mapO
    rcases List.mem_cons.1 h with rfl | h
    · rw [ha]
    · rw [mapO_none h ha]
      cases b c <;> rfl
def partP (b : Ty → Option Ty) (p : Pt Ty) : Option (Pt Ty) := (b p.t).map fun t => ⟨p.n, t, p.o, p.d⟩
def partsP (b : Ty → Option Ty) (l : List (Pt Ty)) : Option (List (Pt Ty)) := mapO (partP b) l
def ptNames (l : List (Pt Ty)) : List ByteArray := l.map fun p => p.n
def elsP (b : Ty → Option Ty) (t : Ty) : Option Ty :=
  match partsP b t.ps, partsP b t.ad with
  | some ps, some ad => (mapO b t.el).map fun el => ⟨t.k, t.n, t.c, t.e, t.fr, t.ns, t.mo, ps, ad, el⟩
  | _, _ => none
/-- A type with full names. -/
def typP (f : List UInt8 → Option ByteArray) : Nat → Ty → Option Ty
  | 0, _ => none
  | n + 1, t => if t.k = 11 then (f t.n.data.toList).map fun s => ⟨t.k, s, t.c, t.e, t.fr, t.ns, t.mo, t.ps, t.ad, t.el⟩
    else if onceB (ptNames t.ps ++ ptNames t.ad) = true ∧ onceB (t.ns ++ t.mo) = true then elsP (typP f n) t else none
structure Has (b : Ty → Bool) (t : Ty) : Prop where
  con : conB 40 t.c = true
  ns : t.ns.length ≤ 256
  mo : t.mo.length ≤ 256
  ps : t.ps.length ≤ 256 ∧ ∀ p ∈ t.ps, b p.t = true ∧ p.d.length ≤ 1
  ad : t.ad.length ≤ 256 ∧ ∀ p ∈ t.ad, b p.t = true ∧ p.d.length ≤ 1
  el : t.el.length ≤ 1 ∧ ∀ x ∈ t.el, b x = true
theorem partsB_has {b : Ty → Bool} {ch : Bool} {l : List (Pt Ty)} (h : partsB b ch l = true) : l.length ≤ 256 ∧ ∀ p ∈ l, b p.t = true ∧ p.d.length ≤ 1 := by
  unfold partsB at h
  rw [Bool.and_eq_true, decide_eq_true_iff, List.all_eq_true] at h
  refine ⟨h.1, fun p hp => ?_⟩
  have := h.2 p hp
  unfold partB at this
  simp only [Bool.and_eq_true, Bool.not_eq_true', decide_eq_false_iff_not] at this
  exact ⟨this.2, by omega⟩
theorem no_len {α : Type} {l : List α} {n : Nat} {Q : α → Prop} (h : ¬ 0 < l.length) : l.length ≤ n ∧ ∀ p ∈ l, Q p := by
  obtain rfl := List.length_eq_zero_iff.1 (show l.length = 0 by omega)
  exact ⟨Nat.zero_le _, fun p hp => by cases hp⟩
theorem wordsB_len {l : List ByteArray} (h : wordsB l = true) : l.length ≤ 256 := by
  unfold wordsB at h
  rw [Bool.and_eq_true, decide_eq_true_iff] at h
  exact h.1
theorem shaped_has {b : Ty → Bool} {t : Ty} (h : shapedS b t = true) : Has b t := by
  unfold shapedS at h
  rw [Bool.and_eq_true] at h
  obtain ⟨hc, h⟩ := h
  simp only [fNs, fMo, fPs, fAd, fEl] at h
  by_cases k1 : t.k = 1 ∨ t.k = 4
  · rw [if_pos k1] at h
    simp only [Bool.and_eq_true, Bool.not_eq_true', decide_eq_false_iff_not] at h
    exact ⟨hc, by omega, by omega, no_len h.1.1.2, no_len h.1.2, no_len h.2⟩
  rw [if_neg k1] at h
  by_cases k2 : t.k = 2 ∨ t.k = 5 ∨ t.k = 6
  · rw [if_pos k2] at h
    simp only [Bool.and_eq_true, Bool.not_eq_true', decide_eq_false_iff_not] at h
    exact ⟨hc, by omega, by omega, no_len h.1.1.1.2, no_len h.1.1.2, no_len h.1.2⟩
  rw [if_neg k2] at h
  by_cases k7 : t.k = 7
  · rw [if_pos k7] at h
    simp only [Bool.and_eq_true, Bool.not_eq_true', decide_eq_false_iff_not] at h
    exact ⟨hc, by omega, by omega, no_len h.1.1.1.1.1.2, no_len h.1.1.1.1.2, no_len h.1.1.1.2⟩
  rw [if_neg k7] at h
  by_cases k3 : t.k = 3
  · rw [if_pos k3] at h
    simp only [Bool.and_eq_true, Bool.not_eq_true', decide_eq_false_iff_not] at h
    exact ⟨hc, wordsB_len h.1.2, wordsB_len h.2, no_len h.1.1.1.1.2, no_len h.1.1.1.2, no_len h.1.1.2⟩
  rw [if_neg k3] at h
  by_cases k8 : t.k = 8
  · rw [if_pos k8] at h
    simp only [Bool.and_eq_true, Bool.not_eq_true', decide_eq_false_iff_not] at h
    exact ⟨hc, by omega, by omega, partsB_has h.1.2, partsB_has h.2, no_len h.1.1.2⟩
  rw [if_neg k8] at h
  by_cases k10 : t.k = 10
  · rw [if_pos k10] at h
    simp only [Bool.and_eq_true, Bool.not_eq_true', decide_eq_false_iff_not] at h
    exact ⟨hc, by omega, by omega, partsB_has h.1.2, partsB_has h.2, no_len h.1.1.2⟩
  rw [if_neg k10] at h
  by_cases k9 : t.k = 9
  · rw [if_pos k9] at h
    simp only [Bool.and_eq_true, Bool.not_eq_true', decide_eq_false_iff_not, decide_eq_true_eq, List.all_eq_true] at h
    exact ⟨hc, by omega, by omega, no_len h.1.1.1.1.1.2, no_len h.1.1.1.1.2, by omega, h.2⟩
  rw [if_neg k9] at h
  simp only [Bool.and_eq_true, Bool.not_eq_true', decide_eq_false_iff_not] at h
  exact ⟨hc, by omega, by omega, no_len h.1.1.1.2, no_len h.1.1.2, no_len h.1.2⟩
/-- One element of a row set anew, to another. -/
theorem reps_put {α : Type} {K : α → List Value → Prop} {sz : Nat} {l : List α} {xs cs : List Value} {j : Nat} {x : α} (h : Reps K sz l xs) (hj : j < l.length) (hc : K x cs) (hl : cs.length = sz) : Reps K sz (l.set j x) (xs.take (j * sz) ++ cs ++ xs.drop (j * sz + cs.length)) := by
  have hle : j * sz + sz ≤ xs.length := by rw [h.1, ← Nat.succ_mul]; exact Nat.mul_le_mul_right _ hj
  have hA : (xs.take (j * sz) ++ cs).length = j * sz + sz := by rw [List.length_append, List.length_take]; omega
  have ht : (xs.take (j * sz)).length = j * sz := by rw [List.length_take]; omega
  refine ⟨by rw [List.length_append, hA, List.length_drop, hl, List.length_set, ← h.1]; omega, fun k p hp => ?_⟩
  rcases Nat.lt_trichotomy k j with hk | hk | hk
  · have hkle : k * sz + sz ≤ j * sz := by rw [← Nat.succ_mul]; exact Nat.mul_le_mul_right _ hk
    have e : ((xs.take (j * sz) ++ cs ++ xs.drop (j * sz + cs.length)).drop (k * sz)).take sz = (xs.drop (k * sz)).take sz := by
      rw [List.append_assoc, List.drop_append_of_le_length (by omega), List.take_append_of_le_length (by rw [List.length_drop]; omega), List.drop_take, List.take_take, Nat.min_eq_left (by omega)]
    rw [e]
    rw [List.getElem?_set_ne (by omega)] at hp
    exact h.2 k p hp
  · subst hk
    rw [List.getElem?_set_self hj] at hp
    cases hp
    have e : ((xs.take (k * sz) ++ cs ++ xs.drop (k * sz + cs.length)).drop (k * sz)).take sz = cs := by
      rw [List.append_assoc, List.drop_append_of_le_length (by omega), List.drop_of_length_le (by omega), List.nil_append, List.take_append_of_le_length (by omega), List.take_of_length_le (by omega)]
    rw [e]
    exact hc
  · have hkle : j * sz + sz ≤ k * sz := by rw [← Nat.succ_mul]; exact Nat.mul_le_mul_right _ hk
    have e : ((xs.take (j * sz) ++ cs ++ xs.drop (j * sz + cs.length)).drop (k * sz)).take sz = (xs.drop (k * sz)).take sz := by
      rw [List.drop_append, hA, List.drop_of_length_le (show (xs.take (j * sz) ++ cs).length ≤ k * sz by rw [hA]; exact hkle), List.nil_append, List.drop_drop]
      congr 2
      omega
    rw [e]
    rw [List.getElem?_set_ne (by omega)] at hp
    exact h.2 k p hp
theorem set_next {α : Type} {y l : List α} {j : Nat} {a : α} (x : α) (hy : y.length = j) (hj : l[j]? = some a) : (y ++ l.drop j).set j x = (y ++ [x]) ++ l.drop (j + 1) := by
  have hjl := (List.getElem?_eq_some_iff.1 hj).1
  rw [List.drop_eq_getElem_cons hjl, List.set_append_right _ _ (by omega), hy, Nat.sub_self, List.set_cons_zero, List.append_assoc, List.singleton_append]
/-- Two stores into one element: its cells 1 to 15, its last one. -/
theorem two_stores {xs ts : List Value} {o : Nat} {a b c : Value} (hle : o + 18 ≤ xs.length) (ht : ts.length = 15) (ha : xs[o]? = some a) (hb : xs[o + 16]? = some b) :
    ((xs.take (o + 1) ++ ts ++ xs.drop (o + 1 + ts.length)).take (o + 17) ++ [c] ++ (xs.take (o + 1) ++ ts ++ xs.drop (o + 1 + ts.length)).drop (o + 17 + [c].length)) = xs.take o ++ ([a] ++ (ts ++ [b, c])) ++ xs.drop (o + 18) := by
  have e1 : xs.take (o + 1) = xs.take o ++ [a] := by rw [List.take_add_one, ha]; rfl
  have e2 : xs.drop (o + 1 + ts.length) = b :: xs.drop (o + 17) := by
    rw [ht, List.drop_eq_getElem_cons (by omega)]
    congr 1
    rw [List.getElem?_eq_getElem (by omega)] at hb
    exact Option.some.inj hb
  have h0 : (xs.take o).length = o := by rw [List.length_take]; omega
  have e3 : xs.drop (o + 17) = xs.drop (o + 17) := rfl
  rw [e1, e2]
  have hL : (xs.take o ++ [a] ++ ts ++ [b]).length = o + 17 := by simp [h0, ht]
  have e4 : xs.take o ++ [a] ++ ts ++ b :: xs.drop (o + 17) = (xs.take o ++ [a] ++ ts ++ [b]) ++ xs.drop (o + 17) := by simp
  rw [e4, List.take_left' hL, List.length_singleton, ← List.drop_drop, List.drop_left' hL, List.drop_drop]
  simp
end Go.Proofs.Ytbjddomocggjmaa.Sc
end
