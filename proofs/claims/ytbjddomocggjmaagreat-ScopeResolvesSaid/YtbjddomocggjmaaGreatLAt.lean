/- Same of the reference of layer 8, of equal values: walked. -/
import Derived.Deep.Cut
import Derived.Test.YtbjddomocggjmaaGreatLT
import Derived.Test.YtbjddomocggjmaaGreatLY
import Derived.Test.YtbjddomocggjmaaGreatLAq
import Derived.Test.YtbjddomocggjmaaGreatLAs
section
namespace Go.Proofs.YtbjddomocggjmaaGreat.Sc
open Go.RowKit Go.ChangeShapes Go.WideShapes Go.Proofs.YtbjddomocggjmaaGreat.Sep
open Go.Proofs.YtbjddomocggjmaaGreatW.PrintWords
variable {B : Nat} {w0 w : World} {R : HP}
def elB (b : Ty → Bool) : List Ty → Bool
 | [] => false
 | x :: _ => b x
theorem only_f (a0 a1 a2 a3 a4 a5 a6 : Bool) (t : Ty) : onlyB a0 a1 a2 a3 a4 a5 a6 t = ((a0 || !fN t) && (a1 || !fC t) && (a2 || !t.e) && (a3 || !fF t) && (a4 || (!fNs t && !fMo t)) && (a5 || (!fPs t && !fAd t)) && (a6 || !fEl t)) := by
 have e0 : ∀ s : ByteArray,noS s = !!s.toList.isEmpty := fun s => by unfold noS; cases s.toList <;> rfl
 have e1 : ∀ a b : Nat,((a : Int) + b == 0) = (!decide (0 < a) && !decide (0 < b)) := fun a b => by
  rw [Bool.eq_iff_iff]; simp; omega
 have e2 : ∀ a : Nat,((a : Int) == 0) = !decide (0 < a) := fun a => by
  rw [Bool.eq_iff_iff]; simp
 unfold onlyB fN fC fF fNs fMo fPs fAd fEl
 rw [e0,e0,e1,e1,e2]
 simp [bne]
theorem ty_cellsC {g : Nat} {e : TypeId} {t : Ty} {cs : List Value} {A7 A10 A11 A12 A13 A14 : Option Addr} {c7 c10 c11 c12 c13 c14 : Nat} (hc : cs = [.int .i64 t.k,.string t.n,.int .i64 t.c.f0,.int .i64 t.c.f1,.int .i64 t.c.f2,.bool t.c.f3,.bool t.c.f4,.slice A7 t.c.f5.length c7,.bool t.e,.string t.fr,.slice A10 t.ns.length c10,.slice A11 t.mo.length c11,.slice A12 t.ps.length c12,.slice A13 t.ad.length c13,.slice A14 t.el.length c14]) (h : St B w0 w (Blk g (.cells cs.toArray e) • R)) : w.cell? ⟨g,0,none⟩ = some (.int .i64 t.k) ∧ w.cell? ⟨g,1,none⟩ = some (.string t.n) ∧ w.cell? ⟨g,2,none⟩ = some (.int .i64 t.c.f0) ∧ w.cell? ⟨g,3,none⟩ = some (.int .i64 t.c.f1) ∧ w.cell? ⟨g,4,none⟩ = some (.int .i64 t.c.f2) ∧ w.cell? ⟨g,5,none⟩ = some (.bool t.c.f3) ∧ w.cell? ⟨g,6,none⟩ = some (.bool t.c.f4) ∧ w.cell? ⟨g,7,none⟩ = some (.slice A7 t.c.f5.length c7) ∧ w.cell? ⟨g,8,none⟩ = some (.bool t.e) ∧ w.cell? ⟨g,9,none⟩ = some (.string t.fr) ∧ w.cell? ⟨g,10,none⟩ = some (.slice A10 t.ns.length c10) ∧ w.cell? ⟨g,11,none⟩ = some (.slice A11 t.mo.length c11) ∧ w.cell? ⟨g,12,none⟩ = some (.slice A12 t.ps.length c12) ∧ w.cell? ⟨g,13,none⟩ = some (.slice A13 t.ad.length c13) ∧ w.cell? ⟨g,14,none⟩ = some (.slice A14 t.el.length c14) := by
 subst hc
 exact ty_cells h
theorem blk_cells {g : Nat} {e : TypeId} {cs : List Value} (h : St B w0 w (Blk g (.cells cs.toArray e) • R)) : ∀ j v,cs[j]? = some v → w.cell? ((⟨g,0,none⟩ : Addr).add j) = some v := fun j v hv => by
 rw [Sep.add_plain]
 exact h.cell j (by simpa using hv)
section
variable {b : Ty → Bool} {t : Ty} (hc : conB 40 t.c = true)
include hc
theorem sh_A (hk : t.k = 1 ∨ t.k = 4) : shapedS b t = (onlyB false false false false false false false t) := by
 unfold shapedS
 rw [hc,only_f]
 rw [if_pos hk]
 simp only [Bool.false_or,Bool.true_and]
 ac_rfl
theorem sh_B (hk : t.k = 2 ∨ t.k = 5 ∨ t.k = 6) : shapedS b t = (onlyB false true true false false false false t && (conB 40 t.c && !(t.e && (t.c.f0 == 0)))) := by
 unfold shapedS
 rw [hc,only_f]
 rw [if_neg (by omega)]
 rw [if_pos hk]
 have e1 : (!(t.e && (t.c.f0 == 0))) = (!t.e || fC t) := by unfold fC; cases t.e <;> simp [bne]
 rw [e1]
 simp only [Bool.true_or,Bool.false_or,Bool.true_and,Bool.and_true]
 ac_rfl
theorem sh_C (hk : t.k = 7) : shapedS b t = (onlyB false true true true false false false t && (conB 40 t.c && !(t.e && (t.c.f0 == 0))) && prsB true t.fr.data.toList) := by
 unfold shapedS
 rw [hc,only_f]
 rw [if_neg (by omega)]
 rw [if_neg (by omega)]
 rw [if_pos hk]
 have e1 : (!(t.e && (t.c.f0 == 0))) = (!t.e || fC t) := by unfold fC; cases t.e <;> simp [bne]
 rw [e1]
 have e2 : prsB true t.fr.data.toList = (printB t.fr && risesB t.fr.data.toList) := rfl
 rw [e2]
 simp only [Bool.true_or,Bool.false_or,Bool.true_and,Bool.and_true]
 ac_rfl
theorem sh_D (hk : t.k = 3) : shapedS b t = (onlyB false false true false true false false t && decide (0 < t.ns.length) && wordsB t.ns && wordsB t.mo && (t.e || ((t.mo.length : Int) == 0))) := by
 unfold shapedS
 rw [hc,only_f]
 rw [if_neg (by omega)]
 rw [if_neg (by omega)]
 rw [if_neg (by omega)]
 rw [if_pos hk]
 have e3 : ((t.mo.length : Int) == 0) = !fMo t := by unfold fMo; rw [Bool.eq_iff_iff]; simp
 rw [e3]
 show _ = (_ && fNs t && _ && _ && _)
 simp only [Bool.true_or,Bool.false_or,Bool.true_and,Bool.and_true]
 ac_rfl
theorem sh_E (hk : t.k = 8) : shapedS b t = (onlyB false false true false false true false t && (t.e || ((t.ad.length : Int) == 0)) && partsB b false t.ps && partsB b false t.ad) := by
 unfold shapedS
 rw [hc,only_f]
 rw [if_neg (by omega)]
 rw [if_neg (by omega)]
 rw [if_neg (by omega)]
 rw [if_neg (by omega)]
 rw [if_pos hk]
 have e4 : ((t.ad.length : Int) == 0) = !fAd t := by unfold fAd; rw [Bool.eq_iff_iff]; simp
 rw [e4]
 simp only [Bool.true_or,Bool.false_or,Bool.true_and,Bool.and_true]
 ac_rfl
theorem sh_F (hk : t.k = 10) : shapedS b t = (onlyB false false true false false true false t && (t.e || ((t.ad.length : Int) == 0)) && decide (0 < t.ps.length) && partsB b true t.ps && partsB b true t.ad) := by
 unfold shapedS
 rw [hc,only_f]
 rw [if_neg (by omega)]
 rw [if_neg (by omega)]
 rw [if_neg (by omega)]
 rw [if_neg (by omega)]
 rw [if_neg (by omega)]
 rw [if_pos hk]
 have e4 : ((t.ad.length : Int) == 0) = !fAd t := by unfold fAd; rw [Bool.eq_iff_iff]; simp
 rw [e4]
 show _ = (_ && _ && fPs t && _ && _)
 simp only [Bool.true_or,Bool.false_or,Bool.true_and,Bool.and_true]
 ac_rfl
theorem sh_G (hk : t.k = 9) : shapedS b t = (onlyB false true true false false false true t && (conB 40 t.c && !(t.e && (t.c.f0 == 0))) && ((t.el.length : Int) == 1) && elB b t.el) := by
 unfold shapedS
 rw [hc,only_f]
 rw [if_neg (by omega)]
 rw [if_neg (by omega)]
 rw [if_neg (by omega)]
 rw [if_neg (by omega)]
 rw [if_neg (by omega)]
 rw [if_neg (by omega)]
 rw [if_pos hk]
 have e1 : (!(t.e && (t.c.f0 == 0))) = (!t.e || fC t) := by unfold fC; cases t.e <;> simp [bne]
 rw [e1]
 by_cases hl : t.el.length = 1
 ·obtain ⟨a,ha⟩ := len1 hl
  have e5 : fEl t = true := by unfold fEl; rw [hl]; rfl
  rw [e5,ha]
  simp [elB]
  ac_rfl
 ·have e6 : ((t.el.length : Int) == 1) = false := beq_eq_false_iff_ne.2 (by omega)
  rw [e6,decide_eq_false hl]
  simp
theorem sh_H (hk : t.k = 11) : shapedS b t = (onlyB true false false false false false false t && nameB t.n) := by
 unfold shapedS
 rw [hc,only_f]
 rw [if_neg (by omega)]
 rw [if_neg (by omega)]
 rw [if_neg (by omega)]
 rw [if_neg (by omega)]
 rw [if_neg (by omega)]
 rw [if_neg (by omega)]
 rw [if_neg (by omega)]
 have eN : (fN t && nameB t.n) = nameB t.n := by
  unfold fN nameB upperB
  cases hs : t.n.toList with
  | nil => rw [Lib.toList_data] at hs; rw [hs]; rfl
  | cons a r => rfl
 rw [decide_eq_true hk, ← eN]
 simp only [Bool.true_or,Bool.false_or,Bool.true_and]
 ac_rfl
end
set_option maxHeartbeats 16000000 in
set_option maxRecDepth 100000 in
theorem rsh1_calls (n : Nat) (ih : RShapedAt w0 n) (t : Ty) (cs : List Value) (d : Int) (hd0 : 0 ≤ d) (hd : d + n = 40) (h : S w0 w R) (hK : kTy.K w0 t cs) (ho : oTy t) (hcn : conB 40 t.c = true) (hk : t.k = 1) :
  Calls Tryz.prog 69 #[.agg cs.toArray,.int .i64 d] w fun e w' => e = .returned (.bool (shapedB (n + 1) t)) ∧ S w0 w' R := by
 have HE := Lib.hid (sh_A (b := shapedB n) hcn (.inl hk))
 obtain ⟨A7,c7,A10,c10,A11,c11,A12,c12,A13,c13,A14,c14,hcs,l7,g7,l10,g10,l11,g11,l12,g12,l13,g13,l14,g14⟩ := kTy_open hK
 have H := Lib.hid (h.alloc (.cells cs.toArray 38))
 have HG := Lib.hid (And.intro g10 (And.intro g11 (And.intro g12 (And.intro g13 (And.intro g14 (ho 1))))))
 have HC := Lib.hid (And.intro hcs (And.intro hK (And.intro ho (And.intro (kTy.K_len hK) (And.intro hcn (And.intro hd0 hd))))))
 have HI := Lib.hid ih
 have HCon := Lib.hid (rcon40_calls t.c A7 c7 H.out g7)
 rw [hcn] at HCon
 obtain ⟨d0,d1,d2,d3,d4,d5,d6,d7,d8,d9,d10,d11,d12,d13,d14⟩ := ty_cellsC hcs H.out
 have p0 := eq_false (show ¬ 40 < d by omega)
 have m1 : (t.k == 1) = true := beq_iff_eq.2 hk
 clear h hK ho hcs l7 l10 g10 l11 g11 l12 g12 l13 g13 l14 g14 g7 ih hk hcn
 go_enter Tryz.func69,Tryz.ntmps69
 go_wp2_with fail
 refine HCon.out.mono ?_
 rintro e w1 ⟨rfl,h1⟩
 have H1 := Lib.hid h1
 clear h1 HCon H d0 d1 d2 d3 d4 d5 d6 d7 d8 d9 d10 d11 d12 d13 d14
 obtain ⟨d0,d1,d2,d3,d4,d5,d6,d7,d8,d9,d10,d11,d12,d13,d14⟩ := ty_cellsC HC.out.1 H1.out
 go_wp2_with (refine held_load 38 _ rfl ?_)
 refine ⟨?_⟩
 refine wpList_load_cells rfl 38 _ rfl ⟨w.heap.size,0,none⟩ rfl cs (blk_cells H1.out) _ Tryz.underlying38 rfl (by rw [HC.out.2.2.2.1]; kernel_rfl) ?_
 go_wp2_with fail
 refine (only0_calls t cs H1.out HC.out.2.1 HC.out.2.2.1).mono ?_
 rintro e w2 ⟨rfl,h2⟩
 have H2 := Lib.hid h2
 clear h2 H1 d0 d1 d2 d3 d4 d5 d6 d7 d8 d9 d10 d11 d12 d13 d14
 obtain ⟨d0,d1,d2,d3,d4,d5,d6,d7,d8,d9,d10,d11,d12,d13,d14⟩ := ty_cellsC HC.out.1 H2.out
 cases q0 : onlyB false false false false false false false t with
 | false =>
  go_wp2
  go_ret
  exact ⟨by rw [show shapedB (n + 1) t = shapedS (shapedB n) t from rfl,HE.out,q0]; rfl,H2.out.drop⟩
 | true =>
  go_wp2
  go_ret
  exact ⟨by rw [show shapedB (n + 1) t = shapedS (shapedB n) t from rfl,HE.out,q0]; rfl,H2.out.drop⟩
set_option maxHeartbeats 16000000 in
set_option maxRecDepth 100000 in
theorem rsh4_calls (n : Nat) (ih : RShapedAt w0 n) (t : Ty) (cs : List Value) (d : Int) (hd0 : 0 ≤ d) (hd : d + n = 40) (h : S w0 w R) (hK : kTy.K w0 t cs) (ho : oTy t) (hcn : conB 40 t.c = true) (hk : t.k = 4) :
  Calls Tryz.prog 69 #[.agg cs.toArray,.int .i64 d] w fun e w' => e = .returned (.bool (shapedB (n + 1) t)) ∧ S w0 w' R := by
 have HE := Lib.hid (sh_A (b := shapedB n) hcn (.inr hk))
 obtain ⟨A7,c7,A10,c10,A11,c11,A12,c12,A13,c13,A14,c14,hcs,l7,g7,l10,g10,l11,g11,l12,g12,l13,g13,l14,g14⟩ := kTy_open hK
 have H := Lib.hid (h.alloc (.cells cs.toArray 38))
 have HG := Lib.hid (And.intro g10 (And.intro g11 (And.intro g12 (And.intro g13 (And.intro g14 (ho 1))))))
 have HC := Lib.hid (And.intro hcs (And.intro hK (And.intro ho (And.intro (kTy.K_len hK) (And.intro hcn (And.intro hd0 hd))))))
 have HI := Lib.hid ih
 have HCon := Lib.hid (rcon40_calls t.c A7 c7 H.out g7)
 rw [hcn] at HCon
 obtain ⟨d0,d1,d2,d3,d4,d5,d6,d7,d8,d9,d10,d11,d12,d13,d14⟩ := ty_cellsC hcs H.out
 have p0 := eq_false (show ¬ 40 < d by omega)
 have m1 : (t.k == 1) = false := beq_eq_false_iff_ne.2 (by omega)
 have m4 : (t.k == 4) = true := beq_iff_eq.2 hk
 clear h hK ho hcs l7 l10 g10 l11 g11 l12 g12 l13 g13 l14 g14 g7 ih hk hcn
 go_enter Tryz.func69,Tryz.ntmps69
 go_wp2_with fail
 refine HCon.out.mono ?_
 rintro e w1 ⟨rfl,h1⟩
 have H1 := Lib.hid h1
 clear h1 HCon H d0 d1 d2 d3 d4 d5 d6 d7 d8 d9 d10 d11 d12 d13 d14
 obtain ⟨d0,d1,d2,d3,d4,d5,d6,d7,d8,d9,d10,d11,d12,d13,d14⟩ := ty_cellsC HC.out.1 H1.out
 go_wp2_with (refine held_load 38 _ rfl ?_)
 refine ⟨?_⟩
 refine wpList_load_cells rfl 38 _ rfl ⟨w.heap.size,0,none⟩ rfl cs (blk_cells H1.out) _ Tryz.underlying38 rfl (by rw [HC.out.2.2.2.1]; kernel_rfl) ?_
 go_wp2_with fail
 refine (only0_calls t cs H1.out HC.out.2.1 HC.out.2.2.1).mono ?_
 rintro e w2 ⟨rfl,h2⟩
 have H2 := Lib.hid h2
 clear h2 H1 d0 d1 d2 d3 d4 d5 d6 d7 d8 d9 d10 d11 d12 d13 d14
 obtain ⟨d0,d1,d2,d3,d4,d5,d6,d7,d8,d9,d10,d11,d12,d13,d14⟩ := ty_cellsC HC.out.1 H2.out
 cases q0 : onlyB false false false false false false false t with
 | false =>
  go_wp2
  go_ret
  exact ⟨by rw [show shapedB (n + 1) t = shapedS (shapedB n) t from rfl,HE.out,q0]; rfl,H2.out.drop⟩
 | true =>
  go_wp2
  go_ret
  exact ⟨by rw [show shapedB (n + 1) t = shapedS (shapedB n) t from rfl,HE.out,q0]; rfl,H2.out.drop⟩
set_option maxHeartbeats 16000000 in
set_option maxRecDepth 100000 in
theorem rsh2_calls (n : Nat) (ih : RShapedAt w0 n) (t : Ty) (cs : List Value) (d : Int) (hd0 : 0 ≤ d) (hd : d + n = 40) (h : S w0 w R) (hK : kTy.K w0 t cs) (ho : oTy t) (hcn : conB 40 t.c = true) (hk : t.k = 2) :
  Calls Tryz.prog 69 #[.agg cs.toArray,.int .i64 d] w fun e w' => e = .returned (.bool (shapedB (n + 1) t)) ∧ S w0 w' R := by
 have HE := Lib.hid (sh_B (b := shapedB n) hcn (.inl hk))
 obtain ⟨A7,c7,A10,c10,A11,c11,A12,c12,A13,c13,A14,c14,hcs,l7,g7,l10,g10,l11,g11,l12,g12,l13,g13,l14,g14⟩ := kTy_open hK
 have H := Lib.hid (h.alloc (.cells cs.toArray 38))
 have HG := Lib.hid (And.intro g10 (And.intro g11 (And.intro g12 (And.intro g13 (And.intro g14 (ho 1))))))
 have HC := Lib.hid (And.intro hcs (And.intro hK (And.intro ho (And.intro (kTy.K_len hK) (And.intro hcn (And.intro hd0 hd))))))
 have HI := Lib.hid ih
 have HCon := Lib.hid (rcon40_calls t.c A7 c7 H.out g7)
 rw [hcn] at HCon
 obtain ⟨d0,d1,d2,d3,d4,d5,d6,d7,d8,d9,d10,d11,d12,d13,d14⟩ := ty_cellsC hcs H.out
 have p0 := eq_false (show ¬ 40 < d by omega)
 have m1 : (t.k == 1) = false := beq_eq_false_iff_ne.2 (by omega)
 have m4 : (t.k == 4) = false := beq_eq_false_iff_ne.2 (by omega)
 have m2 : (t.k == 2) = true := beq_iff_eq.2 hk
 clear h hK ho hcs l7 l10 g10 l11 g11 l12 g12 l13 g13 l14 g14 g7 ih hk hcn
 go_enter Tryz.func69,Tryz.ntmps69
 go_wp2_with fail
 refine HCon.out.mono ?_
 rintro e w1 ⟨rfl,h1⟩
 have H1 := Lib.hid h1
 clear h1 HCon H d0 d1 d2 d3 d4 d5 d6 d7 d8 d9 d10 d11 d12 d13 d14
 obtain ⟨d0,d1,d2,d3,d4,d5,d6,d7,d8,d9,d10,d11,d12,d13,d14⟩ := ty_cellsC HC.out.1 H1.out
 go_wp2_with (refine held_load 38 _ rfl ?_)
 refine ⟨?_⟩
 refine wpList_load_cells rfl 38 _ rfl ⟨w.heap.size,0,none⟩ rfl cs (blk_cells H1.out) _ Tryz.underlying38 rfl (by rw [HC.out.2.2.2.1]; kernel_rfl) ?_
 go_wp2_with fail
 refine (only1_calls t cs H1.out HC.out.2.1 HC.out.2.2.1).mono ?_
 rintro e w2 ⟨rfl,h2⟩
 have H2 := Lib.hid h2
 clear h2 H1 d0 d1 d2 d3 d4 d5 d6 d7 d8 d9 d10 d11 d12 d13 d14
 obtain ⟨d0,d1,d2,d3,d4,d5,d6,d7,d8,d9,d10,d11,d12,d13,d14⟩ := ty_cellsC HC.out.1 H2.out
 cases q0 : onlyB false true true false false false false t with
 | false =>
  go_wp2
  go_ret
  exact ⟨by rw [show shapedB (n + 1) t = shapedS (shapedB n) t from rfl,HE.out,q0]; rfl,H2.out.drop⟩
 | true =>
  go_wp2_with (refine held_load 38 _ rfl ?_)
  refine ⟨?_⟩
  refine wpList_load_cells_w (by rfl) 38 _ rfl ⟨w.heap.size,0,none⟩ rfl cs (blk_cells H2.out) _ Tryz.underlying38 rfl (by rw [HC.out.2.2.2.1]; kernel_rfl) ?_
  go_wp2_with fail
  refine (rsized_calls t cs H2.out HC.out.2.1).mono ?_
  rintro e w3 ⟨rfl,h2⟩
  have H3 := Lib.hid h2
  clear h2 H2 d0 d1 d2 d3 d4 d5 d6 d7 d8 d9 d10 d11 d12 d13 d14
  obtain ⟨d0,d1,d2,d3,d4,d5,d6,d7,d8,d9,d10,d11,d12,d13,d14⟩ := ty_cellsC HC.out.1 H3.out
  cases q1 : (conB 40 t.c && !(t.e && (t.c.f0 == 0))) with
  | false =>
   go_wp2
   go_ret
   exact ⟨by rw [show shapedB (n + 1) t = shapedS (shapedB n) t from rfl,HE.out,q0,q1]; rfl,H3.out.drop⟩
  | true =>
   go_wp2
   go_ret
   exact ⟨by rw [show shapedB (n + 1) t = shapedS (shapedB n) t from rfl,HE.out,q0,q1]; rfl,H3.out.drop⟩
set_option maxHeartbeats 16000000 in
set_option maxRecDepth 100000 in
theorem rsh5_calls (n : Nat) (ih : RShapedAt w0 n) (t : Ty) (cs : List Value) (d : Int) (hd0 : 0 ≤ d) (hd : d + n = 40) (h : S w0 w R) (hK : kTy.K w0 t cs) (ho : oTy t) (hcn : conB 40 t.c = true) (hk : t.k = 5) :
  Calls Tryz.prog 69 #[.agg cs.toArray,.int .i64 d] w fun e w' => e = .returned (.bool (shapedB (n + 1) t)) ∧ S w0 w' R := by
 have HE := Lib.hid (sh_B (b := shapedB n) hcn (.inr (.inl hk)))
 obtain ⟨A7,c7,A10,c10,A11,c11,A12,c12,A13,c13,A14,c14,hcs,l7,g7,l10,g10,l11,g11,l12,g12,l13,g13,l14,g14⟩ := kTy_open hK
 have H := Lib.hid (h.alloc (.cells cs.toArray 38))
 have HG := Lib.hid (And.intro g10 (And.intro g11 (And.intro g12 (And.intro g13 (And.intro g14 (ho 1))))))
 have HC := Lib.hid (And.intro hcs (And.intro hK (And.intro ho (And.intro (kTy.K_len hK) (And.intro hcn (And.intro hd0 hd))))))
 have HI := Lib.hid ih
 have HCon := Lib.hid (rcon40_calls t.c A7 c7 H.out g7)
 rw [hcn] at HCon
 obtain ⟨d0,d1,d2,d3,d4,d5,d6,d7,d8,d9,d10,d11,d12,d13,d14⟩ := ty_cellsC hcs H.out
 have p0 := eq_false (show ¬ 40 < d by omega)
 have m1 : (t.k == 1) = false := beq_eq_false_iff_ne.2 (by omega)
 have m4 : (t.k == 4) = false := beq_eq_false_iff_ne.2 (by omega)
 have m2 : (t.k == 2) = false := beq_eq_false_iff_ne.2 (by omega)
 have m5 : (t.k == 5) = true := beq_iff_eq.2 hk
 clear h hK ho hcs l7 l10 g10 l11 g11 l12 g12 l13 g13 l14 g14 g7 ih hk hcn
 go_enter Tryz.func69,Tryz.ntmps69
 go_wp2_with fail
 refine HCon.out.mono ?_
 rintro e w1 ⟨rfl,h1⟩
 have H1 := Lib.hid h1
 clear h1 HCon H d0 d1 d2 d3 d4 d5 d6 d7 d8 d9 d10 d11 d12 d13 d14
 obtain ⟨d0,d1,d2,d3,d4,d5,d6,d7,d8,d9,d10,d11,d12,d13,d14⟩ := ty_cellsC HC.out.1 H1.out
 go_wp2_with (refine held_load 38 _ rfl ?_)
 refine ⟨?_⟩
 refine wpList_load_cells rfl 38 _ rfl ⟨w.heap.size,0,none⟩ rfl cs (blk_cells H1.out) _ Tryz.underlying38 rfl (by rw [HC.out.2.2.2.1]; kernel_rfl) ?_
 go_wp2_with fail
 refine (only1_calls t cs H1.out HC.out.2.1 HC.out.2.2.1).mono ?_
 rintro e w2 ⟨rfl,h2⟩
 have H2 := Lib.hid h2
 clear h2 H1 d0 d1 d2 d3 d4 d5 d6 d7 d8 d9 d10 d11 d12 d13 d14
 obtain ⟨d0,d1,d2,d3,d4,d5,d6,d7,d8,d9,d10,d11,d12,d13,d14⟩ := ty_cellsC HC.out.1 H2.out
 cases q0 : onlyB false true true false false false false t with
 | false =>
  go_wp2
  go_ret
  exact ⟨by rw [show shapedB (n + 1) t = shapedS (shapedB n) t from rfl,HE.out,q0]; rfl,H2.out.drop⟩
 | true =>
  go_wp2_with (refine held_load 38 _ rfl ?_)
  refine ⟨?_⟩
  refine wpList_load_cells_w (by rfl) 38 _ rfl ⟨w.heap.size,0,none⟩ rfl cs (blk_cells H2.out) _ Tryz.underlying38 rfl (by rw [HC.out.2.2.2.1]; kernel_rfl) ?_
  go_wp2_with fail
  refine (rsized_calls t cs H2.out HC.out.2.1).mono ?_
  rintro e w3 ⟨rfl,h2⟩
  have H3 := Lib.hid h2
  clear h2 H2 d0 d1 d2 d3 d4 d5 d6 d7 d8 d9 d10 d11 d12 d13 d14
  obtain ⟨d0,d1,d2,d3,d4,d5,d6,d7,d8,d9,d10,d11,d12,d13,d14⟩ := ty_cellsC HC.out.1 H3.out
  cases q1 : (conB 40 t.c && !(t.e && (t.c.f0 == 0))) with
  | false =>
   go_wp2
   go_ret
   exact ⟨by rw [show shapedB (n + 1) t = shapedS (shapedB n) t from rfl,HE.out,q0,q1]; rfl,H3.out.drop⟩
  | true =>
   go_wp2
   go_ret
   exact ⟨by rw [show shapedB (n + 1) t = shapedS (shapedB n) t from rfl,HE.out,q0,q1]; rfl,H3.out.drop⟩
set_option maxHeartbeats 16000000 in
set_option maxRecDepth 100000 in
theorem rsh6_calls (n : Nat) (ih : RShapedAt w0 n) (t : Ty) (cs : List Value) (d : Int) (hd0 : 0 ≤ d) (hd : d + n = 40) (h : S w0 w R) (hK : kTy.K w0 t cs) (ho : oTy t) (hcn : conB 40 t.c = true) (hk : t.k = 6) :
  Calls Tryz.prog 69 #[.agg cs.toArray,.int .i64 d] w fun e w' => e = .returned (.bool (shapedB (n + 1) t)) ∧ S w0 w' R := by
 have HE := Lib.hid (sh_B (b := shapedB n) hcn (.inr (.inr hk)))
 obtain ⟨A7,c7,A10,c10,A11,c11,A12,c12,A13,c13,A14,c14,hcs,l7,g7,l10,g10,l11,g11,l12,g12,l13,g13,l14,g14⟩ := kTy_open hK
 have H := Lib.hid (h.alloc (.cells cs.toArray 38))
 have HG := Lib.hid (And.intro g10 (And.intro g11 (And.intro g12 (And.intro g13 (And.intro g14 (ho 1))))))
 have HC := Lib.hid (And.intro hcs (And.intro hK (And.intro ho (And.intro (kTy.K_len hK) (And.intro hcn (And.intro hd0 hd))))))
 have HI := Lib.hid ih
 have HCon := Lib.hid (rcon40_calls t.c A7 c7 H.out g7)
 rw [hcn] at HCon
 obtain ⟨d0,d1,d2,d3,d4,d5,d6,d7,d8,d9,d10,d11,d12,d13,d14⟩ := ty_cellsC hcs H.out
 have p0 := eq_false (show ¬ 40 < d by omega)
 have m1 : (t.k == 1) = false := beq_eq_false_iff_ne.2 (by omega)
 have m4 : (t.k == 4) = false := beq_eq_false_iff_ne.2 (by omega)
 have m2 : (t.k == 2) = false := beq_eq_false_iff_ne.2 (by omega)
 have m5 : (t.k == 5) = false := beq_eq_false_iff_ne.2 (by omega)
 have m6 : (t.k == 6) = true := beq_iff_eq.2 hk
 clear h hK ho hcs l7 l10 g10 l11 g11 l12 g12 l13 g13 l14 g14 g7 ih hk hcn
 go_enter Tryz.func69,Tryz.ntmps69
 go_wp2_with fail
 refine HCon.out.mono ?_
 rintro e w1 ⟨rfl,h1⟩
 have H1 := Lib.hid h1
 clear h1 HCon H d0 d1 d2 d3 d4 d5 d6 d7 d8 d9 d10 d11 d12 d13 d14
 obtain ⟨d0,d1,d2,d3,d4,d5,d6,d7,d8,d9,d10,d11,d12,d13,d14⟩ := ty_cellsC HC.out.1 H1.out
 go_wp2_with (refine held_load 38 _ rfl ?_)
 refine ⟨?_⟩
 refine wpList_load_cells rfl 38 _ rfl ⟨w.heap.size,0,none⟩ rfl cs (blk_cells H1.out) _ Tryz.underlying38 rfl (by rw [HC.out.2.2.2.1]; kernel_rfl) ?_
 go_wp2_with fail
 refine (only1_calls t cs H1.out HC.out.2.1 HC.out.2.2.1).mono ?_
 rintro e w2 ⟨rfl,h2⟩
 have H2 := Lib.hid h2
 clear h2 H1 d0 d1 d2 d3 d4 d5 d6 d7 d8 d9 d10 d11 d12 d13 d14
 obtain ⟨d0,d1,d2,d3,d4,d5,d6,d7,d8,d9,d10,d11,d12,d13,d14⟩ := ty_cellsC HC.out.1 H2.out
 cases q0 : onlyB false true true false false false false t with
 | false =>
  go_wp2
  go_ret
  exact ⟨by rw [show shapedB (n + 1) t = shapedS (shapedB n) t from rfl,HE.out,q0]; rfl,H2.out.drop⟩
 | true =>
  go_wp2_with (refine held_load 38 _ rfl ?_)
  refine ⟨?_⟩
  refine wpList_load_cells_w (by rfl) 38 _ rfl ⟨w.heap.size,0,none⟩ rfl cs (blk_cells H2.out) _ Tryz.underlying38 rfl (by rw [HC.out.2.2.2.1]; kernel_rfl) ?_
  go_wp2_with fail
  refine (rsized_calls t cs H2.out HC.out.2.1).mono ?_
  rintro e w3 ⟨rfl,h2⟩
  have H3 := Lib.hid h2
  clear h2 H2 d0 d1 d2 d3 d4 d5 d6 d7 d8 d9 d10 d11 d12 d13 d14
  obtain ⟨d0,d1,d2,d3,d4,d5,d6,d7,d8,d9,d10,d11,d12,d13,d14⟩ := ty_cellsC HC.out.1 H3.out
  cases q1 : (conB 40 t.c && !(t.e && (t.c.f0 == 0))) with
  | false =>
   go_wp2
   go_ret
   exact ⟨by rw [show shapedB (n + 1) t = shapedS (shapedB n) t from rfl,HE.out,q0,q1]; rfl,H3.out.drop⟩
  | true =>
   go_wp2
   go_ret
   exact ⟨by rw [show shapedB (n + 1) t = shapedS (shapedB n) t from rfl,HE.out,q0,q1]; rfl,H3.out.drop⟩
set_option maxHeartbeats 16000000 in
set_option maxRecDepth 100000 in
theorem rsh7_calls (n : Nat) (ih : RShapedAt w0 n) (t : Ty) (cs : List Value) (d : Int) (hd0 : 0 ≤ d) (hd : d + n = 40) (h : S w0 w R) (hK : kTy.K w0 t cs) (ho : oTy t) (hcn : conB 40 t.c = true) (hk : t.k = 7) :
  Calls Tryz.prog 69 #[.agg cs.toArray,.int .i64 d] w fun e w' => e = .returned (.bool (shapedB (n + 1) t)) ∧ S w0 w' R := by
 have HE := Lib.hid (sh_C (b := shapedB n) hcn hk)
 obtain ⟨A7,c7,A10,c10,A11,c11,A12,c12,A13,c13,A14,c14,hcs,l7,g7,l10,g10,l11,g11,l12,g12,l13,g13,l14,g14⟩ := kTy_open hK
 have H := Lib.hid (h.alloc (.cells cs.toArray 38))
 have HG := Lib.hid (And.intro g10 (And.intro g11 (And.intro g12 (And.intro g13 (And.intro g14 (ho 1))))))
 have HC := Lib.hid (And.intro hcs (And.intro hK (And.intro ho (And.intro (kTy.K_len hK) (And.intro hcn (And.intro hd0 hd))))))
 have HI := Lib.hid ih
 have HCon := Lib.hid (rcon40_calls t.c A7 c7 H.out g7)
 rw [hcn] at HCon
 obtain ⟨d0,d1,d2,d3,d4,d5,d6,d7,d8,d9,d10,d11,d12,d13,d14⟩ := ty_cellsC hcs H.out
 have p0 := eq_false (show ¬ 40 < d by omega)
 have m1 : (t.k == 1) = false := beq_eq_false_iff_ne.2 (by omega)
 have m4 : (t.k == 4) = false := beq_eq_false_iff_ne.2 (by omega)
 have m2 : (t.k == 2) = false := beq_eq_false_iff_ne.2 (by omega)
 have m5 : (t.k == 5) = false := beq_eq_false_iff_ne.2 (by omega)
 have m6 : (t.k == 6) = false := beq_eq_false_iff_ne.2 (by omega)
 have m7 : (t.k == 7) = true := beq_iff_eq.2 hk
 clear h hK ho hcs l7 l10 g10 l11 g11 l12 g12 l13 g13 l14 g14 g7 ih hk hcn
 go_enter Tryz.func69,Tryz.ntmps69
 go_wp2_with fail
 refine HCon.out.mono ?_
 rintro e w1 ⟨rfl,h1⟩
 have H1 := Lib.hid h1
 clear h1 HCon H d0 d1 d2 d3 d4 d5 d6 d7 d8 d9 d10 d11 d12 d13 d14
 obtain ⟨d0,d1,d2,d3,d4,d5,d6,d7,d8,d9,d10,d11,d12,d13,d14⟩ := ty_cellsC HC.out.1 H1.out
 go_wp2_with (refine held_load 38 _ rfl ?_)
 refine ⟨?_⟩
 refine wpList_load_cells rfl 38 _ rfl ⟨w.heap.size,0,none⟩ rfl cs (blk_cells H1.out) _ Tryz.underlying38 rfl (by rw [HC.out.2.2.2.1]; kernel_rfl) ?_
 go_wp2_with fail
 refine (only2_calls t cs H1.out HC.out.2.1 HC.out.2.2.1).mono ?_
 rintro e w2 ⟨rfl,h2⟩
 have H2 := Lib.hid h2
 clear h2 H1 d0 d1 d2 d3 d4 d5 d6 d7 d8 d9 d10 d11 d12 d13 d14
 obtain ⟨d0,d1,d2,d3,d4,d5,d6,d7,d8,d9,d10,d11,d12,d13,d14⟩ := ty_cellsC HC.out.1 H2.out
 cases q0 : onlyB false true true true false false false t with
 | false =>
  go_wp2
  go_ret
  exact ⟨by rw [show shapedB (n + 1) t = shapedS (shapedB n) t from rfl,HE.out,q0]; rfl,H2.out.drop⟩
 | true =>
  go_wp2_with (refine held_load 38 _ rfl ?_)
  refine ⟨?_⟩
  refine wpList_load_cells_w (by rfl) 38 _ rfl ⟨w.heap.size,0,none⟩ rfl cs (blk_cells H2.out) _ Tryz.underlying38 rfl (by rw [HC.out.2.2.2.1]; kernel_rfl) ?_
  go_wp2_with fail
  refine (rsized_calls t cs H2.out HC.out.2.1).mono ?_
  rintro e w3 ⟨rfl,h2⟩
  have H3 := Lib.hid h2
  clear h2 H2 d0 d1 d2 d3 d4 d5 d6 d7 d8 d9 d10 d11 d12 d13 d14
  obtain ⟨d0,d1,d2,d3,d4,d5,d6,d7,d8,d9,d10,d11,d12,d13,d14⟩ := ty_cellsC HC.out.1 H3.out
  cases q1 : (conB 40 t.c && !(t.e && (t.c.f0 == 0))) with
  | false =>
   go_wp2
   go_ret
   exact ⟨by rw [show shapedB (n + 1) t = shapedS (shapedB n) t from rfl,HE.out,q0,q1]; rfl,H3.out.drop⟩
  | true =>
   go_wp2_with fail
   refine (rprint_calls t.fr true H3.out HG.out.2.2.2.2.2.2.2.2.1).mono ?_
   rintro e w4 ⟨rfl,h2⟩
   have H4 := Lib.hid h2
   clear h2 H3 d0 d1 d2 d3 d4 d5 d6 d7 d8 d9 d10 d11 d12 d13 d14
   obtain ⟨d0,d1,d2,d3,d4,d5,d6,d7,d8,d9,d10,d11,d12,d13,d14⟩ := ty_cellsC HC.out.1 H4.out
   cases q2 : prsB true t.fr.data.toList with
   | false =>
    go_wp2
    go_ret
    exact ⟨by rw [show shapedB (n + 1) t = shapedS (shapedB n) t from rfl,HE.out,q0,q1,q2]; rfl,H4.out.drop⟩
   | true =>
    go_wp2
    go_ret
    exact ⟨by rw [show shapedB (n + 1) t = shapedS (shapedB n) t from rfl,HE.out,q0,q1,q2]; rfl,H4.out.drop⟩
end Go.Proofs.YtbjddomocggjmaaGreat.Sc
end
section
namespace Go.Proofs.YtbjddomocggjmaaGreat.Sc
open Go.RowKit Go.ChangeShapes Go.WideShapes Go.Proofs.YtbjddomocggjmaaGreat.Sep
open Go.Proofs.YtbjddomocggjmaaGreatW.PrintWords
variable {B : Nat} {w0 w : World} {R : HP}
set_option maxHeartbeats 16000000 in
set_option maxRecDepth 100000 in
theorem sty_at (n : Nat) : STyAt w0 n := by
 induction n with
 | zero => intro c hc; omega
 | succ n ih =>
  intro t hc w R cs cs' h hK hK'
  obtain ⟨A7,c7,A10,c10,A11,c11,A12,c12,A13,c13,A14,c14,e1, -,g7, -,g10, -,g11, -,g12, -,g13, -,g14⟩ := kTy_open hK
  obtain ⟨B7,p7,B10,p10,B11,p11,B12,p12,B13,p13,B14,p14,e2, -,k7, -,k10, -,k11, -,k12, -,k13, -,k14⟩ := kTy_open hK'
  generalize hg : w.heap.size = g
  have H := Lib.hid (alloc_at (n := g + 1) (alloc_at (n := g) h (.cells cs.toArray 38) hg.symm) (.cells cs'.toArray 38) (by simp [hg]))
  have HC : Hid (cs = [.int .i64 t.k,.string t.n,.int .i64 t.c.f0,.int .i64 t.c.f1,.int .i64 t.c.f2,.bool t.c.f3,.bool t.c.f4,.slice A7 t.c.f5.length c7,.bool t.e,.string t.fr,.slice A10 t.ns.length c10,.slice A11 t.mo.length c11,.slice A12 t.ps.length c12,.slice A13 t.ad.length c13,.slice A14 t.el.length c14] ∧ cs' = [.int .i64 t.k,.string t.n,.int .i64 t.c.f0,.int .i64 t.c.f1,.int .i64 t.c.f2,.bool t.c.f3,.bool t.c.f4,.slice B7 t.c.f5.length p7,.bool t.e,.string t.fr,.slice B10 t.ns.length p10,.slice B11 t.mo.length p11,.slice B12 t.ps.length p12,.slice B13 t.ad.length p13,.slice B14 t.el.length p14]) := Lib.hid ⟨e1,e2⟩
  have HG := Lib.hid (And.intro (And.intro g7 k7) (And.intro (And.intro g10 k10) (And.intro (And.intro g11 k11) (And.intro (And.intro g12 k12) (And.intro (And.intro g13 k13) (And.intro g14 k14))))))
  have HI := Lib.hid (And.intro ih (show SizeOf.sizeOf t < n + 1 from hc))
  have hl : t.el.length ≤ 9223372036854775807 := g14.2.1
  have y0 : (t.n.toList != t.n.toList) = false := bne_self_eq_false _
  have y1 : (t.fr.toList != t.fr.toList) = false := bne_self_eq_false _
  have y2 : (t.e != t.e) = false := bne_self_eq_false _
  have y3 : (t.k != t.k) = false := bne_self_eq_false _
  obtain ⟨b0,b1,b2,b3,b4,b5,b6,b7,b8,b9,b10,b11,b12,b13,b14⟩ := ty_cellsC HC.out.1 H.out.two
  obtain ⟨d0,d1,d2,d3,d4,d5,d6,d7,d8,d9,d10,d11,d12,d13,d14⟩ := ty_cellsC HC.out.2 H.out
  clear h hK hK' e1 e2 g7 g10 g11 g12 g13 g14 k7 k10 k11 k12 k13 k14 ih hc
  go_enter Tryz.func23,Tryz.ntmps23
  go_upto_region 1 with fail
  simp only [List.append_eq,List.cons_append,List.nil_append]
  go_wp2_with fail
  refine (scon_at _ t.c (Nat.lt_succ_self _) _ _ A7 c7 B7 p7 H.out HG.out.1.1 HG.out.1.2).mono ?_
  rintro e w1 ⟨rfl,h1⟩
  have H1 := Lib.hid h1
  clear h1 H d0 d1 d2 d3 d4 d5 d6 d7 d8 d9 d10 d11 d12 d13 d14 b0 b1 b2 b3 b4 b5 b6 b7 b8 b9 b10 b11 b12 b13 b14
  obtain ⟨b0,b1,b2,b3,b4,b5,b6,b7,b8,b9,b10,b11,b12,b13,b14⟩ := ty_cellsC HC.out.1 H1.out.two
  obtain ⟨d0,d1,d2,d3,d4,d5,d6,d7,d8,d9,d10,d11,d12,d13,d14⟩ := ty_cellsC HC.out.2 H1.out
  go_wp2_with fail
  refine (stexts_calls A10 c10 B10 p10 t.ns H1.out HG.out.2.1.1 HG.out.2.1.2).mono ?_
  rintro e w2 ⟨rfl,h2⟩
  have H2 := Lib.hid h2
  clear h2 H1 d0 d1 d2 d3 d4 d5 d6 d7 d8 d9 d10 d11 d12 d13 d14 b0 b1 b2 b3 b4 b5 b6 b7 b8 b9 b10 b11 b12 b13 b14
  obtain ⟨b0,b1,b2,b3,b4,b5,b6,b7,b8,b9,b10,b11,b12,b13,b14⟩ := ty_cellsC HC.out.1 H2.out.two
  obtain ⟨d0,d1,d2,d3,d4,d5,d6,d7,d8,d9,d10,d11,d12,d13,d14⟩ := ty_cellsC HC.out.2 H2.out
  go_wp2_with fail
  refine (stexts_calls A11 c11 B11 p11 t.mo H2.out HG.out.2.2.1.1 HG.out.2.2.1.2).mono ?_
  rintro e w3 ⟨rfl,h3⟩
  have H3 := Lib.hid h3
  clear h3 H2 d0 d1 d2 d3 d4 d5 d6 d7 d8 d9 d10 d11 d12 d13 d14 b0 b1 b2 b3 b4 b5 b6 b7 b8 b9 b10 b11 b12 b13 b14
  obtain ⟨b0,b1,b2,b3,b4,b5,b6,b7,b8,b9,b10,b11,b12,b13,b14⟩ := ty_cellsC HC.out.1 H3.out.two
  obtain ⟨d0,d1,d2,d3,d4,d5,d6,d7,d8,d9,d10,d11,d12,d13,d14⟩ := ty_cellsC HC.out.2 H3.out
  go_wp2_with fail
  refine (sparts_calls n HI.out.1 A12 c12 B12 p12 t.ps (fun p hp => by have := ps_small hp; have := HI.out.2; omega) H3.out HG.out.2.2.2.1.1 HG.out.2.2.2.1.2).mono ?_
  rintro e w4 ⟨rfl,h4⟩
  have H4 := Lib.hid h4
  clear h4 H3 d0 d1 d2 d3 d4 d5 d6 d7 d8 d9 d10 d11 d12 d13 d14 b0 b1 b2 b3 b4 b5 b6 b7 b8 b9 b10 b11 b12 b13 b14
  obtain ⟨b0,b1,b2,b3,b4,b5,b6,b7,b8,b9,b10,b11,b12,b13,b14⟩ := ty_cellsC HC.out.1 H4.out.two
  obtain ⟨d0,d1,d2,d3,d4,d5,d6,d7,d8,d9,d10,d11,d12,d13,d14⟩ := ty_cellsC HC.out.2 H4.out
  go_wp2_with fail
  refine (sparts_calls n HI.out.1 A13 c13 B13 p13 t.ad (fun p hp => by have := ad_small hp; have := HI.out.2; omega) H4.out HG.out.2.2.2.2.1.1 HG.out.2.2.2.2.1.2).mono ?_
  rintro e w5 ⟨rfl,h5⟩
  have H5 := Lib.hid h5
  clear h5 H4 d0 d1 d2 d3 d4 d5 d6 d7 d8 d9 d10 d11 d12 d13 d14 b0 b1 b2 b3 b4 b5 b6 b7 b8 b9 b10 b11 b12 b13 b14
  obtain ⟨b0,b1,b2,b3,b4,b5,b6,b7,b8,b9,b10,b11,b12,b13,b14⟩ := ty_cellsC HC.out.1 H5.out.two
  obtain ⟨d0,d1,d2,d3,d4,d5,d6,d7,d8,d9,d10,d11,d12,d13,d14⟩ := ty_cellsC HC.out.2 H5.out
  go_wp2
  clear d0 d1 d2 d3 d4 d5 d6 d7 d8 d9 d10 d11 d12 d13 d14 b0 b1 b2 b3 b4 b5 b6 b7 b8 b9 b10 b11 b12 b13 b14 y0 y1 y2 y3
  go_loopw [5] (fun v wr => ∃ x : Int,0 ≤ x ∧ x ≤ t.el.length ∧ v = .int .i64 x ∧ Hid (S w0 wr (Blk (g + 1) (.cells cs'.toArray 38) • (Blk g (.cells cs.toArray 38) • R)))) (fun v _ => t.el.length - (intOf v).toNat)
  case atStart => exact ⟨0,Int.le_refl _,by omega,rfl,H5⟩
  case round =>
   clear H5
   obtain ⟨x,hx0,hx1,rfl,HR⟩ := hrel
   obtain ⟨b0,b1,b2,b3,b4,b5,b6,b7,b8,b9,b10,b11,b12,b13,b14⟩ := ty_cellsC HC.out.1 HR.out.two
   clear b0 b1 b2 b3 b4 b5 b6 b7 b8 b9 b10 b11 b12 b13
   by_cases hlt : x < t.el.length
   ·obtain ⟨ad,ts,eA,hcl0,hX,hcell0⟩ := Kd.C_get HG.out.2.2.2.2.2.1 zTy x hx0 hlt
    obtain ⟨ad',ts',eA',hcl0',hX',hcell0'⟩ := Kd.C_get HG.out.2.2.2.2.2.2 zTy x hx0 hlt
    cases eA
    cases eA'
    have HM := Lib.hid (List.mem_of_getElem? (getD_mem t.el zTy x hx0 hlt))
    generalize t.el.getD x.toNat zTy = r at *
    have HX := Lib.hid (And.intro hX hX')
    have HL : Hid (ts.length = 15 ∧ ts'.length = 15) := Lib.hid ⟨hcl0,hcl0'⟩
    have HF : Hid (∀ W,Below w0.heap.size w0 W → Hid ((∀ (j : Nat) (v : Value),ts[j]? = some v → W.cell? ((ad.add (x.toNat * 15)).add j) = some v) ∧ ∀ (j : Nat) (v : Value),ts'[j]? = some v → W.cell? ((ad'.add (x.toNat * 15)).add j) = some v)) := Lib.hid fun W hW => Lib.hid ⟨elem_cells hW hcell0,elem_cells hW hcell0'⟩
    have HZ : Hid (SizeOf.sizeOf r < n) := Lib.hid (by have := el_small HM.out; have := HI.out.2; omega)
    have p126 := eq_true hx0
    have q126 : (x < (t.el.length : Int)) = True := eq_true hlt
    clear hcell0 hcl0 hX hcell0' hcl0' hX'
    go_wp2
    clear b14
    refine wp_region_held_drew (S := fun W => (W.cell? ⟨g,14,none⟩ = some (.slice (some ad) t.el.length c14) ∧ W.cell? ⟨g + 1,14,none⟩ = some (.slice (some ad') t.el.length p14)) ∧ Hid ((∀ (j : Nat) (v : Value),ts[j]? = some v → W.cell? ((ad.add (x.toNat * 15)).add j) = some v) ∧ ∀ (j : Nat) (v : Value),ts'[j]? = some v → W.cell? ((ad'.add (x.toNat * 15)).add j) = some v)) (by kernel_rfl) ?_ (fun hHeld => ?_)
    ·exact ⟨⟨(ty_cellsC HC.out.1 HR.out.drew.two).2.2.2.2.2.2.2.2.2.2.2.2.2.2,(ty_cellsC HC.out.2 HR.out.drew).2.2.2.2.2.2.2.2.2.2.2.2.2.2⟩,HF.out _ HR.out.drew.below⟩
    refine wpAnyH_take (i := 0) (oi := ⟨some 88,.fieldAddr 38 (.tmp 2) 9,0,"ref.go:443",#[],none⟩) (v := ?_) rfl (by kernel_rfl) (by kernel_rfl) (by kernel_rfl) (fun _ _ _ h => h) (Or.inl ⟨by rfl, ?_⟩) (by assumption) ?_
    rotate_left 1
    ·intro w hSw
     try dsimp only at hSw
     go_simp
     all_goals with_reducible rfl
    try simp only [Act.put,List.setIfInBounds_toArray,List.set_cons_succ,List.set_cons_zero]
    refine wpAnyH_take (i := 1) (oi := ⟨some 89,.load 36 (.tmp 88),36,"ref.go:443",#[⟨0,.data⟩],none⟩) (v := ?_) rfl (by kernel_rfl) (by kernel_rfl) (by kernel_rfl) (fun _ _ _ h => h) (Or.inl ⟨by rfl, ?_⟩) (by assumption) ?_
    rotate_left 1
    ·intro w hSw
     try dsimp only at hSw
     go_simp
     all_goals with_reducible rfl
    try simp only [Act.put,List.setIfInBounds_toArray,List.set_cons_succ,List.set_cons_zero]
    refine wpAnyH_take (i := 2) (oi := ⟨some 90,.move (.tmp 5),3,"ref.go:443",#[],none⟩) (v := ?_) rfl (by kernel_rfl) (by kernel_rfl) (by kernel_rfl) (fun _ _ _ h => h) (Or.inl ⟨by rfl, ?_⟩) (by assumption) ?_
    rotate_left 1
    ·intro w hSw
     try dsimp only at hSw
     go_simp
     all_goals with_reducible rfl
    try simp only [Act.put,List.setIfInBounds_toArray,List.set_cons_succ,List.set_cons_zero]
    refine wpAnyH_take (i := 3) (oi := ⟨some 91,.indexAddr 36 (.tmp 89) (.tmp 90),0,"ref.go:443",#[⟨1,.data⟩,⟨2,.data⟩],none⟩) (v := ?_) rfl (by kernel_rfl) (by kernel_rfl) (by kernel_rfl) (fun _ _ _ h => h) (Or.inl ⟨by rfl, ?_⟩) (by assumption) ?_
    rotate_left 1
    ·intro w hSw
     try dsimp only at hSw
     go_simp
     all_goals with_reducible rfl
    try simp only [Act.put,List.setIfInBounds_toArray,List.set_cons_succ,List.set_cons_zero]
    refine wpAnyH_take (i := 4) (oi := ⟨some 92,.load 38 (.tmp 91),38,"ref.go:443",#[⟨3,.data⟩],none⟩) (v := .agg ts.toArray) rfl (by kernel_rfl) (by kernel_rfl) (by kernel_rfl) (fun _ _ _ h => h) (yields_load (by rfl) 38 _ rfl (ad.add (x.toNat * 15)) rfl ts (fun w hS => hS.2.out.1) _ Tryz.underlying38 rfl (by rw [HL.out.1]; kernel_rfl)) (by assumption) ?_
    try simp only [Act.put,List.setIfInBounds_toArray,List.set_cons_succ,List.set_cons_zero]
    refine wpAnyH_take (i := 5) (oi := ⟨some 93,.fieldAddr 38 (.tmp 3) 9,0,"ref.go:443",#[],none⟩) (v := ?_) rfl (by kernel_rfl) (by kernel_rfl) (by kernel_rfl) (fun _ _ _ h => h) (Or.inl ⟨by rfl, ?_⟩) (by assumption) ?_
    rotate_left 1
    ·intro w hSw
     try dsimp only at hSw
     go_simp
     all_goals with_reducible rfl
    try simp only [Act.put,List.setIfInBounds_toArray,List.set_cons_succ,List.set_cons_zero]
    refine wpAnyH_take (i := 6) (oi := ⟨some 94,.load 36 (.tmp 93),36,"ref.go:443",#[⟨5,.data⟩],none⟩) (v := ?_) rfl (by kernel_rfl) (by kernel_rfl) (by kernel_rfl) (fun _ _ _ h => h) (Or.inl ⟨by rfl, ?_⟩) (by assumption) ?_
    rotate_left 1
    ·intro w hSw
     try dsimp only at hSw
     go_simp
     all_goals with_reducible rfl
    try simp only [Act.put,List.setIfInBounds_toArray,List.set_cons_succ,List.set_cons_zero]
    refine wpAnyH_take (i := 7) (oi := ⟨some 95,.move (.tmp 5),3,"ref.go:443",#[],none⟩) (v := ?_) rfl (by kernel_rfl) (by kernel_rfl) (by kernel_rfl) (fun _ _ _ h => h) (Or.inl ⟨by rfl, ?_⟩) (by assumption) ?_
    rotate_left 1
    ·intro w hSw
     try dsimp only at hSw
     go_simp
     all_goals with_reducible rfl
    try simp only [Act.put,List.setIfInBounds_toArray,List.set_cons_succ,List.set_cons_zero]
    refine wpAnyH_take (i := 8) (oi := ⟨some 96,.indexAddr 36 (.tmp 94) (.tmp 95),0,"ref.go:443",#[⟨6,.data⟩,⟨7,.data⟩],none⟩) (v := ?_) rfl (by kernel_rfl) (by kernel_rfl) (by kernel_rfl) (fun _ _ _ h => h) (Or.inl ⟨by rfl, ?_⟩) (by assumption) ?_
    rotate_left 1
    ·intro w hSw
     try dsimp only at hSw
     go_simp
     all_goals with_reducible rfl
    try simp only [Act.put,List.setIfInBounds_toArray,List.set_cons_succ,List.set_cons_zero]
    refine wpAnyH_take (i := 9) (oi := ⟨some 97,.load 38 (.tmp 96),38,"ref.go:443",#[⟨8,.data⟩],none⟩) (v := .agg ts'.toArray) rfl (by kernel_rfl) (by kernel_rfl) (by kernel_rfl) (fun _ _ _ h => h) (yields_load (by rfl) 38 _ rfl (ad'.add (x.toNat * 15)) rfl ts' (fun w hS => hS.2.out.2) _ Tryz.underlying38 rfl (by rw [HL.out.2]; kernel_rfl)) (by assumption) ?_
    try simp only [Act.put,List.setIfInBounds_toArray,List.set_cons_succ,List.set_cons_zero]
    refine wpAnyH_ready (rs := [10]) (by kernel_rfl) (by simp) ?_
    refine AllReadyH.cons (o := ⟨some 98,.call { callee := .value (.func 23),args := #[.tmp 92,.tmp 97],argTypes := #[38,38] },4,"ref.go:443",#[⟨4,.data⟩,⟨9,.data⟩],none⟩) rfl (fun K hK => ?_) AllReadyH.nil
    go_simp
    refine (HI.out.1 r HZ.out _ _ ts ts' HR.out.drew HX.out.1 HX.out.2).mono ?_
    rintro e w3 ⟨rfl,h3⟩
    refine hK.out _ _ ?_ (fun hHeld => ?_)
    ·exact ⟨⟨(ty_cellsC HC.out.1 h3.two).2.2.2.2.2.2.2.2.2.2.2.2.2.2,(ty_cellsC HC.out.2 h3).2.2.2.2.2.2.2.2.2.2.2.2.2.2⟩,HF.out _ h3.below⟩
    clear hK K
    try simp only [Act.put,List.setIfInBounds_toArray,List.set_cons_succ,List.set_cons_zero]
    refine wpAnyH_take (i := 11) (oi := ⟨some 99,.unOp .not 4 (.tmp 98),4,"ref.go:443",#[⟨10,.data⟩],none⟩) (v := ?_) rfl (by kernel_rfl) (by kernel_rfl) (by kernel_rfl) (fun _ _ _ h => h) (Or.inl ⟨by rfl, ?_⟩) (by assumption) ?_
    rotate_left 1
    ·intro w hSw
     try dsimp only at hSw
     go_simp
     all_goals with_reducible rfl
    try simp only [Act.put,List.setIfInBounds_toArray,List.set_cons_succ,List.set_cons_zero]
    refine wpAnyH_done (by kernel_rfl) ?_ _
    have HD := Lib.hid h3
    clear h3 hHeld HR
    go_wp2
    exact ⟨⟨x + 1,by omega,by omega,by go_num,HD⟩,by simp only [intOf]; omega⟩
   ·have hlt' : (x < (t.el.length : Int)) = False := eq_false hlt
    go_wp2
    go_ret
    exact ⟨rfl,HR.out.drop.drop⟩
theorem same_calls (t : Ty) (cs cs' : List Value) (h : S w0 w R) (hK : kTy.K w0 t cs) (hK' : kTy.K w0 t cs') :
  Calls Tryz.prog 23 #[.agg cs.toArray,.agg cs'.toArray] w fun e w' => e = .returned (.bool true) ∧ S w0 w' R :=
 sty_at _ t (Nat.lt_succ_self _) w R cs cs' h hK hK'
end Go.Proofs.YtbjddomocggjmaaGreat.Sc
end
