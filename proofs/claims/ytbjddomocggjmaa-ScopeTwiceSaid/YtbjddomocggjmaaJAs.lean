/- shaped, Type of the reference of layer 8: walked. -/
import Derived.Deep.Cut
import Derived.Test.YtbjddomocggjmaaJT
import Derived.Test.YtbjddomocggjmaaJAr
namespace Go.Proofs.Ytbjddomocggjmaa.Sc
open Go.RowKit Go.ChangeShapes Go.WideShapes Go.Proofs.Ytbjddomocggjmaa.Sep
open Go.Proofs.YtbjddomocggjmaaW.PrintWords
variable {B : Nat} {w0 w : World} {R : HP}
def elB (b : Ty → Bool) : List Ty → Bool
  | [] => false
  | x :: _ => b x
theorem only_f (a0 a1 a2 a3 a4 a5 a6 : Bool) (t : Ty) : onlyB a0 a1 a2 a3 a4 a5 a6 t = ((a0 || !fN t) && (a1 || !fC t) && (a2 || !t.e) && (a3 || !fF t) && (a4 || (!fNs t && !fMo t)) && (a5 || (!fPs t && !fAd t)) && (a6 || !fEl t)) := by
  have e0 : ∀ s : ByteArray, noS s = !!s.toList.isEmpty := fun s => by unfold noS; cases s.toList <;> rfl
  have e1 : ∀ a b : Nat, ((a : Int) + b == 0) = (!decide (0 < a) && !decide (0 < b)) := fun a b => by
    rw [Bool.eq_iff_iff]; simp; omega
  have e2 : ∀ a : Nat, ((a : Int) == 0) = !decide (0 < a) := fun a => by
    rw [Bool.eq_iff_iff]; simp
  unfold onlyB fN fC fF fNs fMo fPs fAd fEl
  rw [e0, e0, e1, e1, e2]
  simp [bne]
theorem ty_cellsC {g : Nat} {e : TypeId} {t : Ty} {cs : List Value} {A7 A10 A11 A12 A13 A14 : Option Addr} {c7 c10 c11 c12 c13 c14 : Nat} (hc : cs = [.int .i64 t.k, .string t.n, .int .i64 t.c.f0, .int .i64 t.c.f1, .int .i64 t.c.f2, .bool t.c.f3, .bool t.c.f4, .slice A7 t.c.f5.length c7, .bool t.e, .string t.fr, .slice A10 t.ns.length c10, .slice A11 t.mo.length c11, .slice A12 t.ps.length c12, .slice A13 t.ad.length c13, .slice A14 t.el.length c14]) (h : St B w0 w (Blk g (.cells cs.toArray e) • R)) : w.cell? ⟨g, 0, none⟩ = some (.int .i64 t.k) ∧ w.cell? ⟨g, 1, none⟩ = some (.string t.n) ∧ w.cell? ⟨g, 2, none⟩ = some (.int .i64 t.c.f0) ∧ w.cell? ⟨g, 3, none⟩ = some (.int .i64 t.c.f1) ∧ w.cell? ⟨g, 4, none⟩ = some (.int .i64 t.c.f2) ∧ w.cell? ⟨g, 5, none⟩ = some (.bool t.c.f3) ∧ w.cell? ⟨g, 6, none⟩ = some (.bool t.c.f4) ∧ w.cell? ⟨g, 7, none⟩ = some (.slice A7 t.c.f5.length c7) ∧ w.cell? ⟨g, 8, none⟩ = some (.bool t.e) ∧ w.cell? ⟨g, 9, none⟩ = some (.string t.fr) ∧ w.cell? ⟨g, 10, none⟩ = some (.slice A10 t.ns.length c10) ∧ w.cell? ⟨g, 11, none⟩ = some (.slice A11 t.mo.length c11) ∧ w.cell? ⟨g, 12, none⟩ = some (.slice A12 t.ps.length c12) ∧ w.cell? ⟨g, 13, none⟩ = some (.slice A13 t.ad.length c13) ∧ w.cell? ⟨g, 14, none⟩ = some (.slice A14 t.el.length c14) := by
  subst hc
  exact ty_cells h
theorem blk_cells {g : Nat} {e : TypeId} {cs : List Value} (h : St B w0 w (Blk g (.cells cs.toArray e) • R)) : ∀ j v, cs[j]? = some v → w.cell? ((⟨g, 0, none⟩ : Addr).add j) = some v := fun j v hv => by
  rw [Sep.add_plain]
  exact h.cell j (by simpa using hv)
section
variable {b : Ty → Bool} {t : Ty} (hc : conB 40 t.c = true)
include hc
theorem sh_A (hk : t.k = 1 ∨ t.k = 4) : shapedS b t = (onlyB false false false false false false false t) := by
  unfold shapedS
  rw [hc, only_f]
  rw [if_pos hk]
  simp only [Bool.false_or, Bool.true_and]
  ac_rfl
theorem sh_B (hk : t.k = 2 ∨ t.k = 5 ∨ t.k = 6) : shapedS b t = (onlyB false true true false false false false t && (conB 40 t.c && !(t.e && (t.c.f0 == 0)))) := by
  unfold shapedS
  rw [hc, only_f]
  rw [if_neg (by omega)]
  rw [if_pos hk]
  have e1 : (!(t.e && (t.c.f0 == 0))) = (!t.e || fC t) := by unfold fC; cases t.e <;> simp [bne]
  rw [e1]
  simp only [Bool.true_or, Bool.false_or, Bool.true_and, Bool.and_true]
  ac_rfl
theorem sh_C (hk : t.k = 7) : shapedS b t = (onlyB false true true true false false false t && (conB 40 t.c && !(t.e && (t.c.f0 == 0))) && prsB true t.fr.data.toList) := by
  unfold shapedS
  rw [hc, only_f]
  rw [if_neg (by omega)]
  rw [if_neg (by omega)]
  rw [if_pos hk]
  have e1 : (!(t.e && (t.c.f0 == 0))) = (!t.e || fC t) := by unfold fC; cases t.e <;> simp [bne]
  rw [e1]
  have e2 : prsB true t.fr.data.toList = (printB t.fr && risesB t.fr.data.toList) := rfl
  rw [e2]
  simp only [Bool.true_or, Bool.false_or, Bool.true_and, Bool.and_true]
  ac_rfl
theorem sh_D (hk : t.k = 3) : shapedS b t = (onlyB false false true false true false false t && decide (0 < t.ns.length) && wordsB t.ns && wordsB t.mo && (t.e || ((t.mo.length : Int) == 0))) := by
  unfold shapedS
  rw [hc, only_f]
  rw [if_neg (by omega)]
  rw [if_neg (by omega)]
  rw [if_neg (by omega)]
  rw [if_pos hk]
  have e3 : ((t.mo.length : Int) == 0) = !fMo t := by unfold fMo; rw [Bool.eq_iff_iff]; simp
  rw [e3]
  show _ = (_ && fNs t && _ && _ && _)
  simp only [Bool.true_or, Bool.false_or, Bool.true_and, Bool.and_true]
  ac_rfl
theorem sh_E (hk : t.k = 8) : shapedS b t = (onlyB false false true false false true false t && (t.e || ((t.ad.length : Int) == 0)) && partsB b false t.ps && partsB b false t.ad) := by
  unfold shapedS
  rw [hc, only_f]
  rw [if_neg (by omega)]
  rw [if_neg (by omega)]
  rw [if_neg (by omega)]
  rw [if_neg (by omega)]
  rw [if_pos hk]
  have e4 : ((t.ad.length : Int) == 0) = !fAd t := by unfold fAd; rw [Bool.eq_iff_iff]; simp
  rw [e4]
  simp only [Bool.true_or, Bool.false_or, Bool.true_and, Bool.and_true]
  ac_rfl
theorem sh_F (hk : t.k = 10) : shapedS b t = (onlyB false false true false false true false t && (t.e || ((t.ad.length : Int) == 0)) && decide (0 < t.ps.length) && partsB b true t.ps && partsB b true t.ad) := by
  unfold shapedS
  rw [hc, only_f]
  rw [if_neg (by omega)]
  rw [if_neg (by omega)]
  rw [if_neg (by omega)]
  rw [if_neg (by omega)]
  rw [if_neg (by omega)]
  rw [if_pos hk]
  have e4 : ((t.ad.length : Int) == 0) = !fAd t := by unfold fAd; rw [Bool.eq_iff_iff]; simp
  rw [e4]
  show _ = (_ && _ && fPs t && _ && _)
  simp only [Bool.true_or, Bool.false_or, Bool.true_and, Bool.and_true]
  ac_rfl
theorem sh_G (hk : t.k = 9) : shapedS b t = (onlyB false true true false false false true t && (conB 40 t.c && !(t.e && (t.c.f0 == 0))) && ((t.el.length : Int) == 1) && elB b t.el) := by
  unfold shapedS
  rw [hc, only_f]
  rw [if_neg (by omega)]
  rw [if_neg (by omega)]
  rw [if_neg (by omega)]
  rw [if_neg (by omega)]
  rw [if_neg (by omega)]
  rw [if_neg (by omega)]
  rw [if_pos hk]
  have e1 : (!(t.e && (t.c.f0 == 0))) = (!t.e || fC t) := by unfold fC; cases t.e <;> simp [bne]
  rw [e1]
  by_cases hl : t.el.length = 1
  · obtain ⟨a, ha⟩ := len1 hl
    have e5 : fEl t = true := by unfold fEl; rw [hl]; rfl
    rw [e5, ha]
    simp [elB]
    ac_rfl
  · have e6 : ((t.el.length : Int) == 1) = false := beq_eq_false_iff_ne.2 (by omega)
    rw [e6, decide_eq_false hl]
    simp
theorem sh_H (hk : t.k = 11) : shapedS b t = (onlyB true false false false false false false t && nameB t.n) := by
  unfold shapedS
  rw [hc, only_f]
  rw [if_neg (by omega)]
  rw [if_neg (by omega)]
  rw [if_neg (by omega)]
  rw [if_neg (by omega)]
  rw [if_neg (by omega)]
  rw [if_neg (by omega)]
  rw [if_neg (by omega)]
  have eN : (fN t && nameB t.n) = nameB t.n := by
    unfold fN nameB upperB
    cases hs : t.n.toList with
    | nil => rw [Lib.toList_data] at hs; rw [hs]; rfl
    | cons a r => rfl
  rw [decide_eq_true hk, ← eN]
  simp only [Bool.true_or, Bool.false_or, Bool.true_and]
  ac_rfl
end
set_option maxHeartbeats 16000000 in
set_option maxRecDepth 100000 in
theorem rsh1_calls (n : Nat) (ih : RShapedAt w0 n) (t : Ty) (cs : List Value) (d : Int) (hd0 : 0 ≤ d) (hd : d + n = 40) (h : S w0 w R) (hK : kTy.K w0 t cs) (ho : oTy t) (hcn : conB 40 t.c = true) (hk : t.k = 1) :
    Calls Try.prog 54 #[.agg cs.toArray, .int .i64 d] w fun e w' => e = .returned (.bool (shapedB (n + 1) t)) ∧ S w0 w' R := by
  have HE := Lib.hid (sh_A (b := shapedB n) hcn (.inl hk))
  obtain ⟨A7, c7, A10, c10, A11, c11, A12, c12, A13, c13, A14, c14, hcs, l7, g7, l10, g10, l11, g11, l12, g12, l13, g13, l14, g14⟩ := kTy_open hK
  have H := Lib.hid (h.alloc (.cells cs.toArray 55))
  have HG := Lib.hid (And.intro g10 (And.intro g11 (And.intro g12 (And.intro g13 (And.intro g14 (ho 1))))))
  have HC := Lib.hid (And.intro hcs (And.intro hK (And.intro ho (And.intro (kTy.K_len hK) (And.intro hcn (And.intro hd0 hd))))))
  have HI := Lib.hid ih
  have HCon := Lib.hid (rcon40_calls t.c A7 c7 H.out g7)
  rw [hcn] at HCon
  obtain ⟨d0, d1, d2, d3, d4, d5, d6, d7, d8, d9, d10, d11, d12, d13, d14⟩ := ty_cellsC hcs H.out
  have p0 := eq_false (show ¬ 40 < d by omega)
  have m1 : (t.k == 1) = true := beq_iff_eq.2 hk
  clear h hK ho hcs l7 l10 g10 l11 g11 l12 g12 l13 g13 l14 g14 g7 ih hk hcn
  go_enter Try.func54, Try.ntmps54
  go_wp2_with fail
  refine HCon.out.mono ?_
  rintro e w1 ⟨rfl, h1⟩
  have H1 := Lib.hid h1
  clear h1 HCon H d0 d1 d2 d3 d4 d5 d6 d7 d8 d9 d10 d11 d12 d13 d14
  obtain ⟨d0, d1, d2, d3, d4, d5, d6, d7, d8, d9, d10, d11, d12, d13, d14⟩ := ty_cellsC HC.out.1 H1.out
  go_wp2_with (refine held_load 55 _ rfl ?_)
  refine ⟨?_⟩
  refine wpList_load_cells rfl 55 _ rfl ⟨w.heap.size, 0, none⟩ rfl cs (blk_cells H1.out) _ Try.underlying55 rfl (by rw [HC.out.2.2.2.1]; kernel_rfl) ?_
  go_wp2_with fail
  refine (only0_calls t cs H1.out HC.out.2.1 HC.out.2.2.1).mono ?_
  rintro e w2 ⟨rfl, h2⟩
  have H2 := Lib.hid h2
  clear h2 H1 d0 d1 d2 d3 d4 d5 d6 d7 d8 d9 d10 d11 d12 d13 d14
  obtain ⟨d0, d1, d2, d3, d4, d5, d6, d7, d8, d9, d10, d11, d12, d13, d14⟩ := ty_cellsC HC.out.1 H2.out
  cases q0 : onlyB false false false false false false false t with
  | false =>
    go_wp2
    go_ret
    exact ⟨by rw [show shapedB (n + 1) t = shapedS (shapedB n) t from rfl, HE.out, q0]; rfl, H2.out.drop⟩
  | true =>
    go_wp2
    go_ret
    exact ⟨by rw [show shapedB (n + 1) t = shapedS (shapedB n) t from rfl, HE.out, q0]; rfl, H2.out.drop⟩
set_option maxHeartbeats 16000000 in
set_option maxRecDepth 100000 in
theorem rsh4_calls (n : Nat) (ih : RShapedAt w0 n) (t : Ty) (cs : List Value) (d : Int) (hd0 : 0 ≤ d) (hd : d + n = 40) (h : S w0 w R) (hK : kTy.K w0 t cs) (ho : oTy t) (hcn : conB 40 t.c = true) (hk : t.k = 4) :
    Calls Try.prog 54 #[.agg cs.toArray, .int .i64 d] w fun e w' => e = .returned (.bool (shapedB (n + 1) t)) ∧ S w0 w' R := by
  have HE := Lib.hid (sh_A (b := shapedB n) hcn (.inr hk))
  obtain ⟨A7, c7, A10, c10, A11, c11, A12, c12, A13, c13, A14, c14, hcs, l7, g7, l10, g10, l11, g11, l12, g12, l13, g13, l14, g14⟩ := kTy_open hK
  have H := Lib.hid (h.alloc (.cells cs.toArray 55))
  have HG := Lib.hid (And.intro g10 (And.intro g11 (And.intro g12 (And.intro g13 (And.intro g14 (ho 1))))))
  have HC := Lib.hid (And.intro hcs (And.intro hK (And.intro ho (And.intro (kTy.K_len hK) (And.intro hcn (And.intro hd0 hd))))))
  have HI := Lib.hid ih
  have HCon := Lib.hid (rcon40_calls t.c A7 c7 H.out g7)
  rw [hcn] at HCon
  obtain ⟨d0, d1, d2, d3, d4, d5, d6, d7, d8, d9, d10, d11, d12, d13, d14⟩ := ty_cellsC hcs H.out
  have p0 := eq_false (show ¬ 40 < d by omega)
  have m1 : (t.k == 1) = false := beq_eq_false_iff_ne.2 (by omega)
  have m4 : (t.k == 4) = true := beq_iff_eq.2 hk
  clear h hK ho hcs l7 l10 g10 l11 g11 l12 g12 l13 g13 l14 g14 g7 ih hk hcn
  go_enter Try.func54, Try.ntmps54
  go_wp2_with fail
  refine HCon.out.mono ?_
  rintro e w1 ⟨rfl, h1⟩
  have H1 := Lib.hid h1
  clear h1 HCon H d0 d1 d2 d3 d4 d5 d6 d7 d8 d9 d10 d11 d12 d13 d14
  obtain ⟨d0, d1, d2, d3, d4, d5, d6, d7, d8, d9, d10, d11, d12, d13, d14⟩ := ty_cellsC HC.out.1 H1.out
  go_wp2_with (refine held_load 55 _ rfl ?_)
  refine ⟨?_⟩
  refine wpList_load_cells rfl 55 _ rfl ⟨w.heap.size, 0, none⟩ rfl cs (blk_cells H1.out) _ Try.underlying55 rfl (by rw [HC.out.2.2.2.1]; kernel_rfl) ?_
  go_wp2_with fail
  refine (only0_calls t cs H1.out HC.out.2.1 HC.out.2.2.1).mono ?_
  rintro e w2 ⟨rfl, h2⟩
  have H2 := Lib.hid h2
  clear h2 H1 d0 d1 d2 d3 d4 d5 d6 d7 d8 d9 d10 d11 d12 d13 d14
  obtain ⟨d0, d1, d2, d3, d4, d5, d6, d7, d8, d9, d10, d11, d12, d13, d14⟩ := ty_cellsC HC.out.1 H2.out
  cases q0 : onlyB false false false false false false false t with
  | false =>
    go_wp2
    go_ret
    exact ⟨by rw [show shapedB (n + 1) t = shapedS (shapedB n) t from rfl, HE.out, q0]; rfl, H2.out.drop⟩
  | true =>
    go_wp2
    go_ret
    exact ⟨by rw [show shapedB (n + 1) t = shapedS (shapedB n) t from rfl, HE.out, q0]; rfl, H2.out.drop⟩
set_option maxHeartbeats 16000000 in
set_option maxRecDepth 100000 in
theorem rsh2_calls (n : Nat) (ih : RShapedAt w0 n) (t : Ty) (cs : List Value) (d : Int) (hd0 : 0 ≤ d) (hd : d + n = 40) (h : S w0 w R) (hK : kTy.K w0 t cs) (ho : oTy t) (hcn : conB 40 t.c = true) (hk : t.k = 2) :
    Calls Try.prog 54 #[.agg cs.toArray, .int .i64 d] w fun e w' => e = .returned (.bool (shapedB (n + 1) t)) ∧ S w0 w' R := by
  have HE := Lib.hid (sh_B (b := shapedB n) hcn (.inl hk))
  obtain ⟨A7, c7, A10, c10, A11, c11, A12, c12, A13, c13, A14, c14, hcs, l7, g7, l10, g10, l11, g11, l12, g12, l13, g13, l14, g14⟩ := kTy_open hK
  have H := Lib.hid (h.alloc (.cells cs.toArray 55))
  have HG := Lib.hid (And.intro g10 (And.intro g11 (And.intro g12 (And.intro g13 (And.intro g14 (ho 1))))))
  have HC := Lib.hid (And.intro hcs (And.intro hK (And.intro ho (And.intro (kTy.K_len hK) (And.intro hcn (And.intro hd0 hd))))))
  have HI := Lib.hid ih
  have HCon := Lib.hid (rcon40_calls t.c A7 c7 H.out g7)
  rw [hcn] at HCon
  obtain ⟨d0, d1, d2, d3, d4, d5, d6, d7, d8, d9, d10, d11, d12, d13, d14⟩ := ty_cellsC hcs H.out
  have p0 := eq_false (show ¬ 40 < d by omega)
  have m1 : (t.k == 1) = false := beq_eq_false_iff_ne.2 (by omega)
  have m4 : (t.k == 4) = false := beq_eq_false_iff_ne.2 (by omega)
  have m2 : (t.k == 2) = true := beq_iff_eq.2 hk
  clear h hK ho hcs l7 l10 g10 l11 g11 l12 g12 l13 g13 l14 g14 g7 ih hk hcn
  go_enter Try.func54, Try.ntmps54
  go_wp2_with fail
  refine HCon.out.mono ?_
  rintro e w1 ⟨rfl, h1⟩
  have H1 := Lib.hid h1
  clear h1 HCon H d0 d1 d2 d3 d4 d5 d6 d7 d8 d9 d10 d11 d12 d13 d14
  obtain ⟨d0, d1, d2, d3, d4, d5, d6, d7, d8, d9, d10, d11, d12, d13, d14⟩ := ty_cellsC HC.out.1 H1.out
  go_wp2_with (refine held_load 55 _ rfl ?_)
  refine ⟨?_⟩
  refine wpList_load_cells rfl 55 _ rfl ⟨w.heap.size, 0, none⟩ rfl cs (blk_cells H1.out) _ Try.underlying55 rfl (by rw [HC.out.2.2.2.1]; kernel_rfl) ?_
  go_wp2_with fail
  refine (only1_calls t cs H1.out HC.out.2.1 HC.out.2.2.1).mono ?_
  rintro e w2 ⟨rfl, h2⟩
  have H2 := Lib.hid h2
  clear h2 H1 d0 d1 d2 d3 d4 d5 d6 d7 d8 d9 d10 d11 d12 d13 d14
  obtain ⟨d0, d1, d2, d3, d4, d5, d6, d7, d8, d9, d10, d11, d12, d13, d14⟩ := ty_cellsC HC.out.1 H2.out
  cases q0 : onlyB false true true false false false false t with
  | false =>
    go_wp2
    go_ret
    exact ⟨by rw [show shapedB (n + 1) t = shapedS (shapedB n) t from rfl, HE.out, q0]; rfl, H2.out.drop⟩
  | true =>
    go_wp2_with (refine held_load 55 _ rfl ?_)
    refine ⟨?_⟩
    refine wpList_load_cells_w (by rfl) 55 _ rfl ⟨w.heap.size, 0, none⟩ rfl cs (blk_cells H2.out) _ Try.underlying55 rfl (by rw [HC.out.2.2.2.1]; kernel_rfl) ?_
    go_wp2_with fail
    refine (rsized_calls t cs H2.out HC.out.2.1).mono ?_
    rintro e w3 ⟨rfl, h2⟩
    have H3 := Lib.hid h2
    clear h2 H2 d0 d1 d2 d3 d4 d5 d6 d7 d8 d9 d10 d11 d12 d13 d14
    obtain ⟨d0, d1, d2, d3, d4, d5, d6, d7, d8, d9, d10, d11, d12, d13, d14⟩ := ty_cellsC HC.out.1 H3.out
    cases q1 : (conB 40 t.c && !(t.e && (t.c.f0 == 0))) with
    | false =>
      go_wp2
      go_ret
      exact ⟨by rw [show shapedB (n + 1) t = shapedS (shapedB n) t from rfl, HE.out, q0, q1]; rfl, H3.out.drop⟩
    | true =>
      go_wp2
      go_ret
      exact ⟨by rw [show shapedB (n + 1) t = shapedS (shapedB n) t from rfl, HE.out, q0, q1]; rfl, H3.out.drop⟩
set_option maxHeartbeats 16000000 in
set_option maxRecDepth 100000 in
theorem rsh5_calls (n : Nat) (ih : RShapedAt w0 n) (t : Ty) (cs : List Value) (d : Int) (hd0 : 0 ≤ d) (hd : d + n = 40) (h : S w0 w R) (hK : kTy.K w0 t cs) (ho : oTy t) (hcn : conB 40 t.c = true) (hk : t.k = 5) :
    Calls Try.prog 54 #[.agg cs.toArray, .int .i64 d] w fun e w' => e = .returned (.bool (shapedB (n + 1) t)) ∧ S w0 w' R := by
  have HE := Lib.hid (sh_B (b := shapedB n) hcn (.inr (.inl hk)))
  obtain ⟨A7, c7, A10, c10, A11, c11, A12, c12, A13, c13, A14, c14, hcs, l7, g7, l10, g10, l11, g11, l12, g12, l13, g13, l14, g14⟩ := kTy_open hK
  have H := Lib.hid (h.alloc (.cells cs.toArray 55))
  have HG := Lib.hid (And.intro g10 (And.intro g11 (And.intro g12 (And.intro g13 (And.intro g14 (ho 1))))))
  have HC := Lib.hid (And.intro hcs (And.intro hK (And.intro ho (And.intro (kTy.K_len hK) (And.intro hcn (And.intro hd0 hd))))))
  have HI := Lib.hid ih
  have HCon := Lib.hid (rcon40_calls t.c A7 c7 H.out g7)
  rw [hcn] at HCon
  obtain ⟨d0, d1, d2, d3, d4, d5, d6, d7, d8, d9, d10, d11, d12, d13, d14⟩ := ty_cellsC hcs H.out
  have p0 := eq_false (show ¬ 40 < d by omega)
  have m1 : (t.k == 1) = false := beq_eq_false_iff_ne.2 (by omega)
  have m4 : (t.k == 4) = false := beq_eq_false_iff_ne.2 (by omega)
  have m2 : (t.k == 2) = false := beq_eq_false_iff_ne.2 (by omega)
  have m5 : (t.k == 5) = true := beq_iff_eq.2 hk
  clear h hK ho hcs l7 l10 g10 l11 g11 l12 g12 l13 g13 l14 g14 g7 ih hk hcn
  go_enter Try.func54, Try.ntmps54
  go_wp2_with fail
  refine HCon.out.mono ?_
  rintro e w1 ⟨rfl, h1⟩
  have H1 := Lib.hid h1
  clear h1 HCon H d0 d1 d2 d3 d4 d5 d6 d7 d8 d9 d10 d11 d12 d13 d14
  obtain ⟨d0, d1, d2, d3, d4, d5, d6, d7, d8, d9, d10, d11, d12, d13, d14⟩ := ty_cellsC HC.out.1 H1.out
  go_wp2_with (refine held_load 55 _ rfl ?_)
  refine ⟨?_⟩
  refine wpList_load_cells rfl 55 _ rfl ⟨w.heap.size, 0, none⟩ rfl cs (blk_cells H1.out) _ Try.underlying55 rfl (by rw [HC.out.2.2.2.1]; kernel_rfl) ?_
  go_wp2_with fail
  refine (only1_calls t cs H1.out HC.out.2.1 HC.out.2.2.1).mono ?_
  rintro e w2 ⟨rfl, h2⟩
  have H2 := Lib.hid h2
  clear h2 H1 d0 d1 d2 d3 d4 d5 d6 d7 d8 d9 d10 d11 d12 d13 d14
  obtain ⟨d0, d1, d2, d3, d4, d5, d6, d7, d8, d9, d10, d11, d12, d13, d14⟩ := ty_cellsC HC.out.1 H2.out
  cases q0 : onlyB false true true false false false false t with
  | false =>
    go_wp2
    go_ret
    exact ⟨by rw [show shapedB (n + 1) t = shapedS (shapedB n) t from rfl, HE.out, q0]; rfl, H2.out.drop⟩
  | true =>
    go_wp2_with (refine held_load 55 _ rfl ?_)
    refine ⟨?_⟩
    refine wpList_load_cells_w (by rfl) 55 _ rfl ⟨w.heap.size, 0, none⟩ rfl cs (blk_cells H2.out) _ Try.underlying55 rfl (by rw [HC.out.2.2.2.1]; kernel_rfl) ?_
    go_wp2_with fail
    refine (rsized_calls t cs H2.out HC.out.2.1).mono ?_
    rintro e w3 ⟨rfl, h2⟩
    have H3 := Lib.hid h2
    clear h2 H2 d0 d1 d2 d3 d4 d5 d6 d7 d8 d9 d10 d11 d12 d13 d14
    obtain ⟨d0, d1, d2, d3, d4, d5, d6, d7, d8, d9, d10, d11, d12, d13, d14⟩ := ty_cellsC HC.out.1 H3.out
    cases q1 : (conB 40 t.c && !(t.e && (t.c.f0 == 0))) with
    | false =>
      go_wp2
      go_ret
      exact ⟨by rw [show shapedB (n + 1) t = shapedS (shapedB n) t from rfl, HE.out, q0, q1]; rfl, H3.out.drop⟩
    | true =>
      go_wp2
      go_ret
      exact ⟨by rw [show shapedB (n + 1) t = shapedS (shapedB n) t from rfl, HE.out, q0, q1]; rfl, H3.out.drop⟩
set_option maxHeartbeats 16000000 in
set_option maxRecDepth 100000 in
theorem rsh6_calls (n : Nat) (ih : RShapedAt w0 n) (t : Ty) (cs : List Value) (d : Int) (hd0 : 0 ≤ d) (hd : d + n = 40) (h : S w0 w R) (hK : kTy.K w0 t cs) (ho : oTy t) (hcn : conB 40 t.c = true) (hk : t.k = 6) :
    Calls Try.prog 54 #[.agg cs.toArray, .int .i64 d] w fun e w' => e = .returned (.bool (shapedB (n + 1) t)) ∧ S w0 w' R := by
  have HE := Lib.hid (sh_B (b := shapedB n) hcn (.inr (.inr hk)))
  obtain ⟨A7, c7, A10, c10, A11, c11, A12, c12, A13, c13, A14, c14, hcs, l7, g7, l10, g10, l11, g11, l12, g12, l13, g13, l14, g14⟩ := kTy_open hK
  have H := Lib.hid (h.alloc (.cells cs.toArray 55))
  have HG := Lib.hid (And.intro g10 (And.intro g11 (And.intro g12 (And.intro g13 (And.intro g14 (ho 1))))))
  have HC := Lib.hid (And.intro hcs (And.intro hK (And.intro ho (And.intro (kTy.K_len hK) (And.intro hcn (And.intro hd0 hd))))))
  have HI := Lib.hid ih
  have HCon := Lib.hid (rcon40_calls t.c A7 c7 H.out g7)
  rw [hcn] at HCon
  obtain ⟨d0, d1, d2, d3, d4, d5, d6, d7, d8, d9, d10, d11, d12, d13, d14⟩ := ty_cellsC hcs H.out
  have p0 := eq_false (show ¬ 40 < d by omega)
  have m1 : (t.k == 1) = false := beq_eq_false_iff_ne.2 (by omega)
  have m4 : (t.k == 4) = false := beq_eq_false_iff_ne.2 (by omega)
  have m2 : (t.k == 2) = false := beq_eq_false_iff_ne.2 (by omega)
  have m5 : (t.k == 5) = false := beq_eq_false_iff_ne.2 (by omega)
  have m6 : (t.k == 6) = true := beq_iff_eq.2 hk
  clear h hK ho hcs l7 l10 g10 l11 g11 l12 g12 l13 g13 l14 g14 g7 ih hk hcn
  go_enter Try.func54, Try.ntmps54
  go_wp2_with fail
  refine HCon.out.mono ?_
  rintro e w1 ⟨rfl, h1⟩
  have H1 := Lib.hid h1
  clear h1 HCon H d0 d1 d2 d3 d4 d5 d6 d7 d8 d9 d10 d11 d12 d13 d14
  obtain ⟨d0, d1, d2, d3, d4, d5, d6, d7, d8, d9, d10, d11, d12, d13, d14⟩ := ty_cellsC HC.out.1 H1.out
  go_wp2_with (refine held_load 55 _ rfl ?_)
  refine ⟨?_⟩
  refine wpList_load_cells rfl 55 _ rfl ⟨w.heap.size, 0, none⟩ rfl cs (blk_cells H1.out) _ Try.underlying55 rfl (by rw [HC.out.2.2.2.1]; kernel_rfl) ?_
  go_wp2_with fail
  refine (only1_calls t cs H1.out HC.out.2.1 HC.out.2.2.1).mono ?_
  rintro e w2 ⟨rfl, h2⟩
  have H2 := Lib.hid h2
  clear h2 H1 d0 d1 d2 d3 d4 d5 d6 d7 d8 d9 d10 d11 d12 d13 d14
  obtain ⟨d0, d1, d2, d3, d4, d5, d6, d7, d8, d9, d10, d11, d12, d13, d14⟩ := ty_cellsC HC.out.1 H2.out
  cases q0 : onlyB false true true false false false false t with
  | false =>
    go_wp2
    go_ret
    exact ⟨by rw [show shapedB (n + 1) t = shapedS (shapedB n) t from rfl, HE.out, q0]; rfl, H2.out.drop⟩
  | true =>
    go_wp2_with (refine held_load 55 _ rfl ?_)
    refine ⟨?_⟩
    refine wpList_load_cells_w (by rfl) 55 _ rfl ⟨w.heap.size, 0, none⟩ rfl cs (blk_cells H2.out) _ Try.underlying55 rfl (by rw [HC.out.2.2.2.1]; kernel_rfl) ?_
    go_wp2_with fail
    refine (rsized_calls t cs H2.out HC.out.2.1).mono ?_
    rintro e w3 ⟨rfl, h2⟩
    have H3 := Lib.hid h2
    clear h2 H2 d0 d1 d2 d3 d4 d5 d6 d7 d8 d9 d10 d11 d12 d13 d14
    obtain ⟨d0, d1, d2, d3, d4, d5, d6, d7, d8, d9, d10, d11, d12, d13, d14⟩ := ty_cellsC HC.out.1 H3.out
    cases q1 : (conB 40 t.c && !(t.e && (t.c.f0 == 0))) with
    | false =>
      go_wp2
      go_ret
      exact ⟨by rw [show shapedB (n + 1) t = shapedS (shapedB n) t from rfl, HE.out, q0, q1]; rfl, H3.out.drop⟩
    | true =>
      go_wp2
      go_ret
      exact ⟨by rw [show shapedB (n + 1) t = shapedS (shapedB n) t from rfl, HE.out, q0, q1]; rfl, H3.out.drop⟩
set_option maxHeartbeats 16000000 in
set_option maxRecDepth 100000 in
theorem rsh7_calls (n : Nat) (ih : RShapedAt w0 n) (t : Ty) (cs : List Value) (d : Int) (hd0 : 0 ≤ d) (hd : d + n = 40) (h : S w0 w R) (hK : kTy.K w0 t cs) (ho : oTy t) (hcn : conB 40 t.c = true) (hk : t.k = 7) :
    Calls Try.prog 54 #[.agg cs.toArray, .int .i64 d] w fun e w' => e = .returned (.bool (shapedB (n + 1) t)) ∧ S w0 w' R := by
  have HE := Lib.hid (sh_C (b := shapedB n) hcn hk)
  obtain ⟨A7, c7, A10, c10, A11, c11, A12, c12, A13, c13, A14, c14, hcs, l7, g7, l10, g10, l11, g11, l12, g12, l13, g13, l14, g14⟩ := kTy_open hK
  have H := Lib.hid (h.alloc (.cells cs.toArray 55))
  have HG := Lib.hid (And.intro g10 (And.intro g11 (And.intro g12 (And.intro g13 (And.intro g14 (ho 1))))))
  have HC := Lib.hid (And.intro hcs (And.intro hK (And.intro ho (And.intro (kTy.K_len hK) (And.intro hcn (And.intro hd0 hd))))))
  have HI := Lib.hid ih
  have HCon := Lib.hid (rcon40_calls t.c A7 c7 H.out g7)
  rw [hcn] at HCon
  obtain ⟨d0, d1, d2, d3, d4, d5, d6, d7, d8, d9, d10, d11, d12, d13, d14⟩ := ty_cellsC hcs H.out
  have p0 := eq_false (show ¬ 40 < d by omega)
  have m1 : (t.k == 1) = false := beq_eq_false_iff_ne.2 (by omega)
  have m4 : (t.k == 4) = false := beq_eq_false_iff_ne.2 (by omega)
  have m2 : (t.k == 2) = false := beq_eq_false_iff_ne.2 (by omega)
  have m5 : (t.k == 5) = false := beq_eq_false_iff_ne.2 (by omega)
  have m6 : (t.k == 6) = false := beq_eq_false_iff_ne.2 (by omega)
  have m7 : (t.k == 7) = true := beq_iff_eq.2 hk
  clear h hK ho hcs l7 l10 g10 l11 g11 l12 g12 l13 g13 l14 g14 g7 ih hk hcn
  go_enter Try.func54, Try.ntmps54
  go_wp2_with fail
  refine HCon.out.mono ?_
  rintro e w1 ⟨rfl, h1⟩
  have H1 := Lib.hid h1
  clear h1 HCon H d0 d1 d2 d3 d4 d5 d6 d7 d8 d9 d10 d11 d12 d13 d14
  obtain ⟨d0, d1, d2, d3, d4, d5, d6, d7, d8, d9, d10, d11, d12, d13, d14⟩ := ty_cellsC HC.out.1 H1.out
  go_wp2_with (refine held_load 55 _ rfl ?_)
  refine ⟨?_⟩
  refine wpList_load_cells rfl 55 _ rfl ⟨w.heap.size, 0, none⟩ rfl cs (blk_cells H1.out) _ Try.underlying55 rfl (by rw [HC.out.2.2.2.1]; kernel_rfl) ?_
  go_wp2_with fail
  refine (only2_calls t cs H1.out HC.out.2.1 HC.out.2.2.1).mono ?_
  rintro e w2 ⟨rfl, h2⟩
  have H2 := Lib.hid h2
  clear h2 H1 d0 d1 d2 d3 d4 d5 d6 d7 d8 d9 d10 d11 d12 d13 d14
  obtain ⟨d0, d1, d2, d3, d4, d5, d6, d7, d8, d9, d10, d11, d12, d13, d14⟩ := ty_cellsC HC.out.1 H2.out
  cases q0 : onlyB false true true true false false false t with
  | false =>
    go_wp2
    go_ret
    exact ⟨by rw [show shapedB (n + 1) t = shapedS (shapedB n) t from rfl, HE.out, q0]; rfl, H2.out.drop⟩
  | true =>
    go_wp2_with (refine held_load 55 _ rfl ?_)
    refine ⟨?_⟩
    refine wpList_load_cells_w (by rfl) 55 _ rfl ⟨w.heap.size, 0, none⟩ rfl cs (blk_cells H2.out) _ Try.underlying55 rfl (by rw [HC.out.2.2.2.1]; kernel_rfl) ?_
    go_wp2_with fail
    refine (rsized_calls t cs H2.out HC.out.2.1).mono ?_
    rintro e w3 ⟨rfl, h2⟩
    have H3 := Lib.hid h2
    clear h2 H2 d0 d1 d2 d3 d4 d5 d6 d7 d8 d9 d10 d11 d12 d13 d14
    obtain ⟨d0, d1, d2, d3, d4, d5, d6, d7, d8, d9, d10, d11, d12, d13, d14⟩ := ty_cellsC HC.out.1 H3.out
    cases q1 : (conB 40 t.c && !(t.e && (t.c.f0 == 0))) with
    | false =>
      go_wp2
      go_ret
      exact ⟨by rw [show shapedB (n + 1) t = shapedS (shapedB n) t from rfl, HE.out, q0, q1]; rfl, H3.out.drop⟩
    | true =>
      go_wp2_with fail
      refine (rprint_calls t.fr true H3.out HG.out.2.2.2.2.2.2.2.2.1).mono ?_
      rintro e w4 ⟨rfl, h2⟩
      have H4 := Lib.hid h2
      clear h2 H3 d0 d1 d2 d3 d4 d5 d6 d7 d8 d9 d10 d11 d12 d13 d14
      obtain ⟨d0, d1, d2, d3, d4, d5, d6, d7, d8, d9, d10, d11, d12, d13, d14⟩ := ty_cellsC HC.out.1 H4.out
      cases q2 : prsB true t.fr.data.toList with
      | false =>
        go_wp2
        go_ret
        exact ⟨by rw [show shapedB (n + 1) t = shapedS (shapedB n) t from rfl, HE.out, q0, q1, q2]; rfl, H4.out.drop⟩
      | true =>
        go_wp2
        go_ret
        exact ⟨by rw [show shapedB (n + 1) t = shapedS (shapedB n) t from rfl, HE.out, q0, q1, q2]; rfl, H4.out.drop⟩
end Go.Proofs.Ytbjddomocggjmaa.Sc
