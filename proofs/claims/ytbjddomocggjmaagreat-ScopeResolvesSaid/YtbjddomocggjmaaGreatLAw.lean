/- Module of the reference of layer 8: walked. -/
import Derived.Deep.Cut
import Derived.Test.YtbjddomocggjmaaGreatLAl
import Derived.Test.YtbjddomocggjmaaGreatLAv
section
namespace Go.Proofs.YtbjddomocggjmaaGreat.Sc
open Go.RowKit Go.ChangeShapes Go.WideShapes Go.Proofs.YtbjddomocggjmaaGreat.Sep
open Go.Proofs.YtbjddomocggjmaaGreatW.PrintWords
variable {B : Nat} {w0 w : World} {R : HP}
set_option maxHeartbeats 16000000 in
set_option maxRecDepth 100000 in
theorem rsh9_calls (n : Nat) (ih : RShapedAt w0 n) (t : Ty) (cs : List Value) (d : Int) (hd0 : 0 ≤ d) (hd : d + n = 40) (h : S w0 w R) (hK : kTy.K w0 t cs) (ho : oTy t) (hcn : conB 40 t.c = true) (hk : t.k = 9) :
  Calls Tryz.prog 69 #[.agg cs.toArray,.int .i64 d] w fun e w' => e = .returned (.bool (shapedB (n + 1) t)) ∧ S w0 w' R := by
 have HE := Lib.hid (sh_G (b := shapedB n) hcn hk)
 obtain ⟨A7,c7,A10,c10,A11,c11,A12,c12,A13,c13,A14,c14,hcs,l7,g7,l10,g10,l11,g11,l12,g12,l13,g13,l14,g14⟩ := kTy_open hK
 have H := Lib.hid (h.alloc (.cells cs.toArray 38))
 have HG := Lib.hid (And.intro g10 (And.intro g11 (And.intro g12 (And.intro g13 (And.intro g14 (ho 1))))))
 have HC := Lib.hid (And.intro hcs (And.intro hK (And.intro ho (And.intro (kTy.K_len hK) (And.intro hcn (And.intro hd0 hd))))))
 have HI := Lib.hid ih
 have HCon := Lib.hid (rcon40_calls t.c A7 c7 H.out g7)
 rw [hcn] at HCon
 obtain ⟨d0,d1,d2,d3,d4,d5,d6,d7,d8,d9,d10,d11,d12,d13,d14⟩ := ty_cellsC hcs H.out
 have p0 := eq_false (show ¬ 40 < d by omega)
 have m1 : (t.k == 1) = false := beq_eq_false_iff_ne.2 (by omega)
 have m4 : (t.k == 4) = false := beq_eq_false_iff_ne.2 (by omega)
 have m2 : (t.k == 2) = false := beq_eq_false_iff_ne.2 (by omega)
 have m5 : (t.k == 5) = false := beq_eq_false_iff_ne.2 (by omega)
 have m6 : (t.k == 6) = false := beq_eq_false_iff_ne.2 (by omega)
 have m7 : (t.k == 7) = false := beq_eq_false_iff_ne.2 (by omega)
 have m3 : (t.k == 3) = false := beq_eq_false_iff_ne.2 (by omega)
 have m8 : (t.k == 8) = false := beq_eq_false_iff_ne.2 (by omega)
 have m10 : (t.k == 10) = false := beq_eq_false_iff_ne.2 (by omega)
 have m9 : (t.k == 9) = true := beq_iff_eq.2 hk
 clear h hK ho hcs l7 l10 g10 l11 g11 l12 g12 l13 g13 l14 g14 g7 ih hk hcn
 go_enter Tryz.func69,Tryz.ntmps69
 go_wp2_with fail
 refine HCon.out.mono ?_
 rintro e w1 ⟨rfl,h1⟩
 have H1 := Lib.hid h1
 clear h1 HCon H d0 d1 d2 d3 d4 d5 d6 d7 d8 d9 d10 d11 d12 d13 d14
 obtain ⟨d0,d1,d2,d3,d4,d5,d6,d7,d8,d9,d10,d11,d12,d13,d14⟩ := ty_cellsC HC.out.1 H1.out
 go_wp2_with (refine held_load 38 _ rfl ?_)
 refine ⟨?_⟩
 refine wpList_load_cells rfl 38 _ rfl ⟨w.heap.size,0,none⟩ rfl cs (blk_cells H1.out) _ Tryz.underlying38 rfl (by rw [HC.out.2.2.2.1]; kernel_rfl) ?_
 go_wp2_with fail
 refine (only5_calls t cs H1.out HC.out.2.1 HC.out.2.2.1).mono ?_
 rintro e w2 ⟨rfl,h2⟩
 have H2 := Lib.hid h2
 clear h2 H1 d0 d1 d2 d3 d4 d5 d6 d7 d8 d9 d10 d11 d12 d13 d14
 obtain ⟨d0,d1,d2,d3,d4,d5,d6,d7,d8,d9,d10,d11,d12,d13,d14⟩ := ty_cellsC HC.out.1 H2.out
 cases q0 : onlyB false true true false false false true t with
 | false =>
  go_wp2
  go_ret
  exact ⟨by rw [show shapedB (n + 1) t = shapedS (shapedB n) t from rfl,HE.out,q0]; rfl,H2.out.drop⟩
 | true =>
  go_wp2_with (refine held_load 38 _ rfl ?_)
  refine ⟨?_⟩
  refine wpList_load_cells_w (by rfl) 38 _ rfl ⟨w.heap.size,0,none⟩ rfl cs (blk_cells H2.out) _ Tryz.underlying38 rfl (by rw [HC.out.2.2.2.1]; kernel_rfl) ?_
  go_wp2_with fail
  refine (rsized_calls t cs H2.out HC.out.2.1).mono ?_
  rintro e w3 ⟨rfl,h2⟩
  have H3 := Lib.hid h2
  clear h2 H2 d0 d1 d2 d3 d4 d5 d6 d7 d8 d9 d10 d11 d12 d13 d14
  obtain ⟨d0,d1,d2,d3,d4,d5,d6,d7,d8,d9,d10,d11,d12,d13,d14⟩ := ty_cellsC HC.out.1 H3.out
  cases q1 : (conB 40 t.c && !(t.e && (t.c.f0 == 0))) with
  | false =>
   go_wp2
   go_ret
   exact ⟨by rw [show shapedB (n + 1) t = shapedS (shapedB n) t from rfl,HE.out,q0,q1]; rfl,H3.out.drop⟩
  | true =>
   cases q2 : ((t.el.length : Int) == 1) with
   | false =>
    go_wp2
    go_ret
    exact ⟨by rw [show shapedB (n + 1) t = shapedS (shapedB n) t from rfl,HE.out,q0,q1,q2]; rfl,H3.out.drop⟩
   | true =>
    have hel : (t.el.length : Int) = 1 := by simpa using q2
    obtain ⟨ad7,vs,eA,hcl,hKv,hcell7⟩ := Kd.C_get HG.out.2.2.2.2.1 zTy 0 (by omega) (by omega)
    have HKv : Hid (kTy.K w0 (t.el.getD (0 : Int).toNat zTy) vs ∧ vs.length = 15 ∧ oTy (t.el.getD (0 : Int).toNat zTy)) := Lib.hid ⟨hKv,hcl,fun dd => (HC.out.2.2.1 (dd + 1)).2.2.2.2.2.2.2.2.2 _ (List.mem_of_getElem? (getD_mem t.el zTy 0 (by omega) (by omega)))⟩
    have HCv : Hid (∀ (j : Nat) (u : Value),vs[j]? = some u → w3.cell? (ad7.add j) = some u) := Lib.hid fun j u hu => by
     have := pw_cell_below H3.out.below (hcell7 j u hu)
     rwa [show (0 : Int).toNat * kTy.sz + j = j by simp] at this
    have HX : Hid (elB (shapedB n) t.el = shapedB n (t.el.getD (0 : Int).toNat zTy)) := Lib.hid (by obtain ⟨a,ha⟩ := len1 (show t.el.length = 1 by omega); rw [ha]; rfl)
    rw [HX.out] at HE
    have y3 := eq_true (show (0 : Int) < t.el.length by omega)
    have y4 := eq_true (show 0 < t.el.length by omega)
    rw [eA] at d14
    clear hel hKv hcl hcell7
    go_wp2_with (refine held_load 38 _ rfl ?_)
    refine ⟨?_⟩
    refine wpList_load_cells_w (by rfl) 38 _ rfl ad7 rfl vs HCv.out _ Tryz.underlying38 rfl (by rw [HKv.out.2.1]; kernel_rfl) ?_
    go_wp2_with fail
    refine (HI.out _ _ _ vs (d + 1) (by have := HC.out.2.2.2.2.2; omega) (by have := HC.out.2.2.2.2.2; omega) H3.out HKv.out.1 HKv.out.2.2).mono ?_
    rintro e w5 ⟨rfl,h2⟩
    have H5 := Lib.hid h2
    clear h2 H3 d0 d1 d2 d3 d4 d5 d6 d7 d8 d9 d10 d11 d12 d13 d14
    obtain ⟨d0,d1,d2,d3,d4,d5,d6,d7,d8,d9,d10,d11,d12,d13,d14⟩ := ty_cellsC HC.out.1 H5.out
    cases q3 : shapedB n (t.el.getD (0 : Int).toNat zTy) with
    | false =>
     go_wp2
     go_ret
     exact ⟨by rw [show shapedB (n + 1) t = shapedS (shapedB n) t from rfl,HE.out,q0,q1,q2,q3]; rfl,H5.out.drop⟩
    | true =>
     go_wp2
     go_ret
     exact ⟨by rw [show shapedB (n + 1) t = shapedS (shapedB n) t from rfl,HE.out,q0,q1,q2,q3]; rfl,H5.out.drop⟩
set_option maxHeartbeats 16000000 in
set_option maxRecDepth 100000 in
theorem rsh11_calls (n : Nat) (ih : RShapedAt w0 n) (t : Ty) (cs : List Value) (d : Int) (hd0 : 0 ≤ d) (hd : d + n = 40) (h : S w0 w R) (hK : kTy.K w0 t cs) (ho : oTy t) (hcn : conB 40 t.c = true) (hk : t.k = 11) :
  Calls Tryz.prog 69 #[.agg cs.toArray,.int .i64 d] w fun e w' => e = .returned (.bool (shapedB (n + 1) t)) ∧ S w0 w' R := by
 have HE := Lib.hid (sh_H (b := shapedB n) hcn hk)
 obtain ⟨A7,c7,A10,c10,A11,c11,A12,c12,A13,c13,A14,c14,hcs,l7,g7,l10,g10,l11,g11,l12,g12,l13,g13,l14,g14⟩ := kTy_open hK
 have H := Lib.hid (h.alloc (.cells cs.toArray 38))
 have HG := Lib.hid (And.intro g10 (And.intro g11 (And.intro g12 (And.intro g13 (And.intro g14 (ho 1))))))
 have HC := Lib.hid (And.intro hcs (And.intro hK (And.intro ho (And.intro (kTy.K_len hK) (And.intro hcn (And.intro hd0 hd))))))
 have HI := Lib.hid ih
 have HCon := Lib.hid (rcon40_calls t.c A7 c7 H.out g7)
 rw [hcn] at HCon
 obtain ⟨d0,d1,d2,d3,d4,d5,d6,d7,d8,d9,d10,d11,d12,d13,d14⟩ := ty_cellsC hcs H.out
 have p0 := eq_false (show ¬ 40 < d by omega)
 have m1 : (t.k == 1) = false := beq_eq_false_iff_ne.2 (by omega)
 have m4 : (t.k == 4) = false := beq_eq_false_iff_ne.2 (by omega)
 have m2 : (t.k == 2) = false := beq_eq_false_iff_ne.2 (by omega)
 have m5 : (t.k == 5) = false := beq_eq_false_iff_ne.2 (by omega)
 have m6 : (t.k == 6) = false := beq_eq_false_iff_ne.2 (by omega)
 have m7 : (t.k == 7) = false := beq_eq_false_iff_ne.2 (by omega)
 have m3 : (t.k == 3) = false := beq_eq_false_iff_ne.2 (by omega)
 have m8 : (t.k == 8) = false := beq_eq_false_iff_ne.2 (by omega)
 have m10 : (t.k == 10) = false := beq_eq_false_iff_ne.2 (by omega)
 have m9 : (t.k == 9) = false := beq_eq_false_iff_ne.2 (by omega)
 have m11 : (t.k == 11) = true := beq_iff_eq.2 hk
 clear h hK ho hcs l7 l10 g10 l11 g11 l12 g12 l13 g13 l14 g14 g7 ih hk hcn
 go_enter Tryz.func69,Tryz.ntmps69
 go_wp2_with fail
 refine HCon.out.mono ?_
 rintro e w1 ⟨rfl,h1⟩
 have H1 := Lib.hid h1
 clear h1 HCon H d0 d1 d2 d3 d4 d5 d6 d7 d8 d9 d10 d11 d12 d13 d14
 obtain ⟨d0,d1,d2,d3,d4,d5,d6,d7,d8,d9,d10,d11,d12,d13,d14⟩ := ty_cellsC HC.out.1 H1.out
 go_wp2_with (refine held_load 38 _ rfl ?_)
 refine ⟨?_⟩
 refine wpList_load_cells rfl 38 _ rfl ⟨w.heap.size,0,none⟩ rfl cs (blk_cells H1.out) _ Tryz.underlying38 rfl (by rw [HC.out.2.2.2.1]; kernel_rfl) ?_
 go_wp2_with fail
 refine (only6_calls t cs H1.out HC.out.2.1 HC.out.2.2.1).mono ?_
 rintro e w2 ⟨rfl,h2⟩
 have H2 := Lib.hid h2
 clear h2 H1 d0 d1 d2 d3 d4 d5 d6 d7 d8 d9 d10 d11 d12 d13 d14
 obtain ⟨d0,d1,d2,d3,d4,d5,d6,d7,d8,d9,d10,d11,d12,d13,d14⟩ := ty_cellsC HC.out.1 H2.out
 cases q0 : onlyB true false false false false false false t with
 | false =>
  go_wp2
  go_ret
  exact ⟨by rw [show shapedB (n + 1) t = shapedS (shapedB n) t from rfl,HE.out,q0]; rfl,H2.out.drop⟩
 | true =>
  go_wp2_with fail
  refine (rname_calls t.n H2.out HG.out.2.2.2.2.2.2.1).mono ?_
  rintro e w3 ⟨rfl,h2⟩
  have H3 := Lib.hid h2
  clear h2 H2 d0 d1 d2 d3 d4 d5 d6 d7 d8 d9 d10 d11 d12 d13 d14
  obtain ⟨d0,d1,d2,d3,d4,d5,d6,d7,d8,d9,d10,d11,d12,d13,d14⟩ := ty_cellsC HC.out.1 H3.out
  cases q1 : nameB t.n with
  | false =>
   go_wp2
   go_ret
   exact ⟨by rw [show shapedB (n + 1) t = shapedS (shapedB n) t from rfl,HE.out,q0,q1]; rfl,H3.out.drop⟩
  | true =>
   go_wp2
   go_ret
   exact ⟨by rw [show shapedB (n + 1) t = shapedS (shapedB n) t from rfl,HE.out,q0,q1]; rfl,H3.out.drop⟩
set_option maxHeartbeats 16000000 in
set_option maxRecDepth 100000 in
theorem rsh_zero : RShapedAt w0 0 := by
 intro W Q t cs d hd0 hd h hK ho
 obtain rfl : d = 41 := by omega
 have e : shapedB 0 t = false := rfl
 rw [e]
 have H := Lib.hid (h.alloc (.cells cs.toArray 38))
 clear h hK ho hd hd0 e
 go_enter Tryz.func69,Tryz.ntmps69
 go_wp2
 go_ret
 exact ⟨rfl,H.out.drop⟩
set_option maxHeartbeats 16000000 in
set_option maxRecDepth 100000 in
theorem rsh_con (n : Nat) (t : Ty) (cs : List Value) (d : Int) (hd : d ≤ 40) (h : S w0 w R) (hK : kTy.K w0 t cs) (hcn : conB 40 t.c = false) :
  Calls Tryz.prog 69 #[.agg cs.toArray,.int .i64 d] w fun e w' => e = .returned (.bool (shapedB (n + 1) t)) ∧ S w0 w' R := by
 have e : shapedB (n + 1) t = false := by
  show shapedS (shapedB n) t = false
  unfold shapedS
  rw [hcn]; rfl
 rw [e]
 obtain ⟨A7,c7,A10,c10,A11,c11,A12,c12,A13,c13,A14,c14,hcs,l7,g7, -⟩ := kTy_open hK
 have H := Lib.hid (h.alloc (.cells cs.toArray 38))
 have HCon := Lib.hid (rcon40_calls t.c A7 c7 H.out g7)
 rw [hcn] at HCon
 obtain ⟨d0,d1,d2,d3,d4,d5,d6,d7,d8,d9,d10,d11,d12,d13,d14⟩ := ty_cellsC hcs H.out
 have p0 := eq_false (show ¬ 40 < d by omega)
 clear h hK hcs l7 g7 hcn e
 go_enter Tryz.func69,Tryz.ntmps69
 go_wp2_with fail
 refine HCon.out.mono ?_
 rintro e w1 ⟨rfl,h1⟩
 have H1 := Lib.hid h1
 clear h1 HCon
 go_wp2
 go_ret
 exact ⟨rfl,H1.out.drop⟩
set_option maxHeartbeats 16000000 in
set_option maxRecDepth 100000 in
theorem rsh_none (n : Nat) (t : Ty) (cs : List Value) (d : Int) (hd : d ≤ 40) (h : S w0 w R) (hK : kTy.K w0 t cs) (hcn : conB 40 t.c = true) (hk : t.k ≠ 1 ∧ t.k ≠ 2 ∧ t.k ≠ 3 ∧ t.k ≠ 4 ∧ t.k ≠ 5 ∧ t.k ≠ 6 ∧ t.k ≠ 7 ∧ t.k ≠ 8 ∧ t.k ≠ 9 ∧ t.k ≠ 10 ∧ t.k ≠ 11) :
  Calls Tryz.prog 69 #[.agg cs.toArray,.int .i64 d] w fun e w' => e = .returned (.bool (shapedB (n + 1) t)) ∧ S w0 w' R := by
 have e : shapedB (n + 1) t = false := by
  show shapedS (shapedB n) t = false
  unfold shapedS
  rw [if_neg (by omega),if_neg (by omega),if_neg (by omega),if_neg (by omega),if_neg (by omega),if_neg (by omega),if_neg (by omega),decide_eq_false hk.2.2.2.2.2.2.2.2.2.2]
  simp
 rw [e]
 obtain ⟨A7,c7,A10,c10,A11,c11,A12,c12,A13,c13,A14,c14,hcs,l7,g7, -⟩ := kTy_open hK
 have H := Lib.hid (h.alloc (.cells cs.toArray 38))
 have HC := Lib.hid hcs
 have HCon := Lib.hid (rcon40_calls t.c A7 c7 H.out g7)
 rw [hcn] at HCon
 obtain ⟨d0,d1,d2,d3,d4,d5,d6,d7,d8,d9,d10,d11,d12,d13,d14⟩ := ty_cellsC hcs H.out
 have p0 := eq_false (show ¬ 40 < d by omega)
 have m1 : (t.k == 1) = false := beq_eq_false_iff_ne.2 (by omega)
 have m2 : (t.k == 2) = false := beq_eq_false_iff_ne.2 (by omega)
 have m3 : (t.k == 3) = false := beq_eq_false_iff_ne.2 (by omega)
 have m4 : (t.k == 4) = false := beq_eq_false_iff_ne.2 (by omega)
 have m5 : (t.k == 5) = false := beq_eq_false_iff_ne.2 (by omega)
 have m6 : (t.k == 6) = false := beq_eq_false_iff_ne.2 (by omega)
 have m7 : (t.k == 7) = false := beq_eq_false_iff_ne.2 (by omega)
 have m8 : (t.k == 8) = false := beq_eq_false_iff_ne.2 (by omega)
 have m9 : (t.k == 9) = false := beq_eq_false_iff_ne.2 (by omega)
 have m10 : (t.k == 10) = false := beq_eq_false_iff_ne.2 (by omega)
 have m11 : (t.k == 11) = false := beq_eq_false_iff_ne.2 (by omega)
 clear h hK hcs l7 g7 hcn hk e
 go_enter Tryz.func69,Tryz.ntmps69
 go_wp2_with fail
 refine HCon.out.mono ?_
 rintro e w1 ⟨rfl,h1⟩
 have H1 := Lib.hid h1
 clear h1 HCon d0 d1 d2 d3 d4 d5 d6 d7 d8 d9 d10 d11 d12 d13 d14
 obtain ⟨d0,d1,d2,d3,d4,d5,d6,d7,d8,d9,d10,d11,d12,d13,d14⟩ := ty_cellsC HC.out H1.out
 go_wp2
 go_ret
 exact ⟨rfl,H1.out.drop⟩
theorem rshaped_at (n : Nat) : RShapedAt w0 n := by
 induction n with
 | zero => exact rsh_zero
 | succ n ih =>
  intro w R t cs d hd0 hd h hK ho
  cases hcn : conB 40 t.c with
  | false => exact rsh_con n t cs d (by omega) h hK hcn
  | true =>
   by_cases k1 : t.k = 1
   ·exact rsh1_calls n ih t cs d hd0 (by omega) h hK ho hcn k1
   by_cases k2 : t.k = 2
   ·exact rsh2_calls n ih t cs d hd0 (by omega) h hK ho hcn k2
   by_cases k3 : t.k = 3
   ·exact rsh3_calls n ih t cs d hd0 (by omega) h hK ho hcn k3
   by_cases k4 : t.k = 4
   ·exact rsh4_calls n ih t cs d hd0 (by omega) h hK ho hcn k4
   by_cases k5 : t.k = 5
   ·exact rsh5_calls n ih t cs d hd0 (by omega) h hK ho hcn k5
   by_cases k6 : t.k = 6
   ·exact rsh6_calls n ih t cs d hd0 (by omega) h hK ho hcn k6
   by_cases k7 : t.k = 7
   ·exact rsh7_calls n ih t cs d hd0 (by omega) h hK ho hcn k7
   by_cases k8 : t.k = 8
   ·exact rsh8_calls n ih t cs d hd0 (by omega) h hK ho hcn k8
   by_cases k9 : t.k = 9
   ·exact rsh9_calls n ih t cs d hd0 (by omega) h hK ho hcn k9
   by_cases k10 : t.k = 10
   ·exact rsh10_calls n ih t cs d hd0 (by omega) h hK ho hcn k10
   by_cases k11 : t.k = 11
   ·exact rsh11_calls n ih t cs d hd0 (by omega) h hK ho hcn k11
   exact rsh_none n t cs d (by omega) h hK hcn ⟨k1,k2,k3,k4,k5,k6,k7,k8,k9,k10,k11⟩
set_option maxHeartbeats 16000000 in
set_option maxRecDepth 100000 in
theorem rtype_calls (t : Ty) (cs : List Value) (h : S w0 w R) (hK : kTy.K w0 t cs) (ho : oTy t) :
  Calls Tryz.prog 42 #[.agg cs.toArray] w fun e w' => e = .returned (.bool (shapedB 40 t)) ∧ S w0 w' R := by
 have H := Lib.hid (h.alloc (.cells cs.toArray 38))
 have HS := Lib.hid (rshaped_at (w0 := w0) 40 _ _ t cs 1 (by omega) (by omega) H.out hK ho)
 have HC := Lib.hid (kTy.K_len hK)
 clear h hK ho
 go_enter Tryz.func42,Tryz.ntmps42
 go_wp2_with (refine held_load 38 _ rfl ?_)
 refine ⟨?_⟩
 refine wpList_load_cells rfl 38 _ rfl ⟨w.heap.size,0,none⟩ rfl cs (blk_cells H.out) _ Tryz.underlying38 rfl (by rw [HC.out]; kernel_rfl) ?_
 go_wp2_with fail
 refine HS.out.mono ?_
 rintro e w1 ⟨rfl,h1⟩
 have H1 := Lib.hid h1
 clear h1 HS
 go_wp2
 go_ret
 exact ⟨rfl,H1.out.drop⟩
end Go.Proofs.YtbjddomocggjmaaGreat.Sc
end
section
namespace Go.Proofs.YtbjddomocggjmaaGreat.Sc
open Go.RowKit Go.ChangeShapes Go.WideShapes Go.Proofs.YtbjddomocggjmaaGreat.Sep
open Go.Proofs.YtbjddomocggjmaaGreatW.PrintWords
variable {B : Nat} {w0 w : World} {R : HP}
section
variable {m : Md}
theorem md_n (h : nameB m.n = false) : mdB m = false := by unfold mdB; rw [h]; rfl
theorem md_il (h : 256 < m.im.length) : mdB m = false := by unfold mdB; rw [decide_eq_true h]; simp
theorem md_dl (h : 256 < m.df.length) : mdB m = false := by unfold mdB; rw [decide_eq_true h]; simp
theorem md_im (h : m.im.all imB = false) : mdB m = false := by unfold mdB; rw [h]; simp
theorem md_df (h : m.df.all dfB = false) : mdB m = false := by unfold mdB; rw [h]; simp
theorem md_all (h0 : nameB m.n = true) (h1 : ¬ 256 < m.im.length) (h2 : ¬ 256 < m.df.length) (h3 : m.im.all imB = true) (h4 : m.df.all dfB = true) : mdB m = true := by
 unfold mdB
 rw [h0,decide_eq_false h1,decide_eq_false h2,h3,h4]
 rfl
end
section
variable {x : Im}
theorem im_f (h : nameB x.f1 = false) : imB x = false := by unfold imB; rw [h]; rfl
theorem im_z (h : x.f0.length = 0) : imB x = false := by unfold imB; rw [decide_eq_true h]; simp
theorem im_l (h : 256 < x.f0.length) : imB x = false := by unfold imB; rw [decide_eq_true h]; simp
theorem im_n (h : x.f0.all nameB = false) : imB x = false := by unfold imB; rw [h]; simp
theorem im_all (h0 : nameB x.f1 = true) (h1 : x.f0.length ≠ 0) (h2 : ¬ 256 < x.f0.length) (h3 : x.f0.all nameB = true) : imB x = true := by
 unfold imB
 rw [h0,decide_eq_false h1,decide_eq_false h2,h3]
 rfl
end
set_option maxHeartbeats 16000000 in
set_option maxRecDepth 100000 in
theorem rmod_calls (m : Md) (cs : List Value) (h : S w0 w R) (hK : kMd.K w0 m cs) (ho : oMd m) :
  Calls Tryz.prog 18 #[.agg cs.toArray] w fun e w' => e = .returned (.bool (mdB m)) ∧ S w0 w' R := by
 obtain ⟨A2,c2,A3,c3,rfl, -,g2, -,g3⟩ := kMd_open hK
 have H := Lib.hid (h.alloc (.cells #[.string m.n,.bool m.au,.slice A2 m.im.length c2,.slice A3 m.df.length c3] 44))
 have HC := Lib.hid (And.intro g2 (And.intro g3 ho))
 have hl2 : m.im.length ≤ 9223372036854775807 := g2.2.1
 have hl3 : m.df.length ≤ 9223372036854775807 := g3.2.1
 have b0 := H.out.cell 0 rfl
 have b2 := H.out.cell 2 rfl
 have b3 := H.out.cell 3 rfl
 clear h hK ho g2 g3
 show Calls Tryz.prog 18 #[.agg #[.string m.n,.bool m.au,.slice A2 m.im.length c2,.slice A3 m.df.length c3]] w _
 go_enter Tryz.func18,Tryz.ntmps18
 go_wp2_with fail
 refine (rname_calls m.n H.out HC.out.2.2.1).mono ?_
 rintro e w1 ⟨rfl,h1⟩
 have H1 := Lib.hid h1
 generalize w.heap.size = g at *
 have b2 := h1.cell 2 rfl
 have b3 := h1.cell 3 rfl
 clear h1 H
 cases hn : nameB m.n with
 | false =>
  have HZ := Lib.hid (md_n hn)
  go_wp2
  go_ret
  exact ⟨by rw [HZ.out]; rfl,H1.out.drop⟩
 | true =>
  by_cases q2 : 256 < m.im.length
  ·have HZ := Lib.hid (md_il q2)
   have p2 := eq_true (show (256 : Int) < m.im.length by omega)
   clear q2
   go_wp2
   go_ret
   exact ⟨by rw [HZ.out]; rfl,H1.out.drop⟩
  have p2 := eq_false (show ¬ (256 : Int) < m.im.length by omega)
  by_cases q3 : 256 < m.df.length
  ·have HZ := Lib.hid (md_dl q3)
   have p3 := eq_true (show (256 : Int) < m.df.length by omega)
   clear q2 q3
   go_wp2
   go_ret
   exact ⟨by rw [HZ.out]; rfl,H1.out.drop⟩
  have p3 := eq_false (show ¬ (256 : Int) < m.df.length by omega)
  have HQ := Lib.hid (And.intro hn (And.intro q2 q3))
  clear hn q2 q3
  go_wp2
  clear p2 p3 b0 b2 b3
  go_loopw [3] (fun v wr => ∃ x : Int,0 ≤ x ∧ x ≤ m.im.length ∧ v = .int .i64 x ∧ Hid (S w0 wr (Blk g (.cells #[.string m.n,.bool m.au,.slice A2 m.im.length c2,.slice A3 m.df.length c3] 44) • R)) ∧ Hid (∀ y ∈ m.im.take x.toNat,imB y = true)) (fun v _ => m.im.length - (intOf v).toNat)
  case atStart => exact ⟨0,Int.le_refl _,by omega,rfl,H1,Lib.hid (by simp)⟩
  case round =>
   clear H1
   obtain ⟨x,hx0,hx1,rfl,HR,HT⟩ := hrel
   have b2 := HR.out.cell 2 rfl
   by_cases hlt : x < m.im.length
   ·obtain ⟨ad,cs,eA,hcl0,hK,hcell0⟩ := Kd.C_get HC.out.1 zIm x hx0 hlt
    cases eA
    have hcell : ∀ (j : Nat) (u : Value),cs[j]? = some u → w0.cell? (ad.add (x.toNat * 2 + j)) = some u := hcell0
    have HG := Lib.hid (getD_mem m.im zIm x hx0 hlt)
    generalize m.im.getD x.toNat zIm = r at *
    obtain ⟨A0,c0,rfl, -,g0⟩ := PScopeResolves.k50_open (show kIm.K w0 r cs from hK)
    have HO := Lib.hid (And.intro g0 (HC.out.2.2.2.1.2 r (List.mem_of_getElem? HG.out)))
    have hl0 : r.f0.length ≤ 9223372036854775807 := g0.2.1
    have e0 : wr.cell? (ad.add (x.toNat * 2)) = some (.slice A0 r.f0.length c0) := pw_cell_below HR.out.below (hcell 0 _ rfl)
    have e1 : wr.cell? ⟨(ad.add (x.toNat * 2)).block,(ad.add (x.toNat * 2)).off + 1,none⟩ = some (.string r.f1) := by
     have := pw_cell_below HR.out.below (hcell 1 _ rfl)
     rwa [add_field ad _ _ (by omega)] at this
    have p126 := eq_true hx0
    have q126 : (x < (m.im.length : Int)) = True := eq_true hlt
    clear hcell hcell0 hcl0 hK g0
    go_wp2_with fail
    refine (rname_calls r.f1 HR.out HO.out.2.2.2).mono ?_
    rintro e w2 ⟨rfl,h2⟩
    have H2 := Lib.hid h2
    clear h2 HR e0 e1 b2
    cases hn : nameB r.f1 with
    | false =>
     have HZ := Lib.hid (md_im (all_bad HG.out (im_f hn)))
     go_wp2
     go_ret
     exact ⟨by rw [HZ.out]; rfl,H2.out.drop⟩
    | true =>
     by_cases z0 : r.f0.length = 0
     ·have HZ := Lib.hid (md_im (all_bad HG.out (im_z z0)))
      have y0 : ((r.f0.length : Int) == 0) = true := beq_iff_eq.2 (by omega)
      clear z0
      go_wp2
      go_ret
      exact ⟨by rw [HZ.out]; rfl,H2.out.drop⟩
     have y0 : ((r.f0.length : Int) == 0) = false := beq_eq_false_iff_ne.2 (by omega)
     by_cases z1 : 256 < r.f0.length
     ·have HZ := Lib.hid (md_im (all_bad HG.out (im_l z1)))
      have y1 := eq_true (show (256 : Int) < r.f0.length by omega)
      clear z0 z1
      go_wp2
      go_ret
      exact ⟨by rw [HZ.out]; rfl,H2.out.drop⟩
     have y1 := eq_false (show ¬ (256 : Int) < r.f0.length by omega)
     have HX := Lib.hid (And.intro hn (And.intro z0 z1))
     clear hn z0 z1
     go_wp2
     clear y0 y1
     go_loopw [5] (fun v wr => ∃ z : Int,0 ≤ z ∧ z ≤ r.f0.length ∧ v = .int .i64 z ∧ Hid (S w0 wr (Blk g (.cells #[.string m.n,.bool m.au,.slice (some ad) m.im.length c2,.slice A3 m.df.length c3] 44) • R)) ∧ Hid (∀ s ∈ r.f0.take z.toNat,nameB s = true)) (fun v _ => r.f0.length - (intOf v).toNat)
     case atStart => exact ⟨0,Int.le_refl _,by omega,rfl,H2,Lib.hid (by simp)⟩
     case round =>
      clear H2
      obtain ⟨z,hz0,hz1,rfl,HS,HU⟩ := hrel
      by_cases hlz : z < r.f0.length
      ·obtain ⟨ad5,cs5,eA5,hcl5,hK5,hcell5⟩ := Kd.C_get HO.out.1 (⟨#[]⟩ : ByteArray) z hz0 hlz
       cases eA5
       have HGs := Lib.hid (getD_mem r.f0 (⟨#[]⟩ : ByteArray) z hz0 hlz)
       obtain rfl : cs5 = [.string (r.f0.getD z.toNat (⟨#[]⟩ : ByteArray))] := hK5
       generalize r.f0.getD z.toNat (⟨#[]⟩ : ByteArray) = s at *
       have d0 := pw_cell_below HS.out.below (hcell5 0 _ rfl)
       have d0 : wr.cell? (ad5.add z.toNat) = some (.string s) := by
        rw [show z.toNat * Kd.string.sz + 0 = z.toNat by show z.toNat * 1 + 0 = z.toNat; omega] at d0
        exact d0
       have p127 := eq_true hz0
       have q127 : (z < (r.f0.length : Int)) = True := eq_true hlz
       clear hcell5 hcl5
       go_wp2_with fail
       refine (rname_calls s HS.out (HO.out.2.2.1 s (List.mem_of_getElem? HGs.out))).mono ?_
       rintro e w5 ⟨rfl,h5⟩
       have H5 := Lib.hid h5
       clear h5 HS d0
       cases hq : nameB s with
       | false =>
        have HZ := Lib.hid (md_im (all_bad HG.out (im_n (all_bad HGs.out hq))))
        go_wp2
        go_ret
        exact ⟨by rw [HZ.out]; rfl,H5.out.drop⟩
       | true =>
        have HU2 := Lib.hid (all_next (p := nameB) hz0 HU.out HGs.out hq)
        go_wp2
        exact ⟨⟨z + 1,by omega,by omega,by go_num,H5,HU2⟩,by simp only [intOf]; omega⟩
      ·have hlt' : (z < (r.f0.length : Int)) = False := eq_false hlz
       have HT2 := Lib.hid (all_next (p := imB) hx0 HT.out HG.out (im_all HX.out.1 HX.out.2.1 HX.out.2.2 (all_take HU.out (by omega))))
       go_wp2
       exact ⟨⟨x + 1,by omega,by omega,by go_num,HS,HT2⟩,by simp only [intOf]; omega⟩
   ·have hlt' : (x < (m.im.length : Int)) = False := eq_false hlt
    have HW := Lib.hid (all_take HT.out (by omega))
    clear HT
    go_wp2
    clear b2
    go_loopw [6] (fun v wr => ∃ y : Int,0 ≤ y ∧ y ≤ m.df.length ∧ v = .int .i64 y ∧ Hid (S w0 wr (Blk g (.cells #[.string m.n,.bool m.au,.slice A2 m.im.length c2,.slice A3 m.df.length c3] 44) • R)) ∧ Hid (∀ d ∈ m.df.take y.toNat,dfB d = true)) (fun v _ => m.df.length - (intOf v).toNat)
    case atStart => exact ⟨0,Int.le_refl _,by omega,rfl,HR,Lib.hid (by simp)⟩
    case round =>
     clear HR
     obtain ⟨y,hy0,hy1,rfl,HR,HT⟩ := hrel
     have b3 := HR.out.cell 3 rfl
     by_cases hly : y < m.df.length
     ·obtain ⟨ad3,cs,eA,hcl0,hK,hcell0⟩ := Kd.C_get HC.out.2.1 zDf y hy0 hly
      cases eA
      have hcell : ∀ (j : Nat) (u : Value),cs[j]? = some u → w0.cell? (ad3.add (y.toNat * 16 + j)) = some u := hcell0
      have HG := Lib.hid (getD_mem m.df zDf y hy0 hly)
      generalize m.df.getD y.toNat zDf = d at *
      obtain ⟨ts,hD⟩ := df_cells (show kDf.K w0 d cs from hK)
      have hod := HC.out.2.2.2.2.2 d (List.mem_of_getElem? HG.out)
      have e0 : wr.cell? (ad3.add (y.toNat * 16)) = some (.string d.n) := pw_cell_below HR.out.below (hcell 0 _ hD.n)
      have HD2 := Lib.hid (And.intro hD hod)
      have HCt : Hid (∀ (W : World),Below w0.heap.size w0 W → ∀ (j : Nat) (v : Value),ts[j]? = some v → W.cell? ⟨(ad3.add (y.toNat * 16)).block,(ad3.add (y.toNat * 16)).off + 1 + j,none⟩ = some v) := Lib.hid fun W hW j v hv => by
       have := pw_cell_below hW (hcell (1 + j) v (HD2.out.1.typ j v hv))
       rwa [add_field ad3 _ _ (by omega), ← Nat.add_assoc] at this
      have p127 := eq_true hy0
      have q127 : (y < (m.df.length : Int)) = True := eq_true hly
      clear hcell hcell0 hcl0 hK hD hod
      go_wp2_with fail
      refine (rname_calls d.n HR.out HD2.out.2.1).mono ?_
      rintro e w2 ⟨rfl,h2⟩
      have H2 := Lib.hid h2
      have b3 := h2.cell 3 rfl
      clear h2 HR e0
      cases hn : nameB d.n with
      | false =>
       have HZ := Lib.hid (md_df (all_bad HG.out (show dfB d = false by unfold dfB; rw [hn]; rfl)))
       go_wp2
       go_ret
       exact ⟨by rw [HZ.out]; rfl,H2.out.drop⟩
      | true =>
       have HN := Lib.hid hn
       clear hn
       go_wp2_with (refine held_load 38 _ rfl ?_)
       refine ⟨?_⟩
       refine wpList_load_cells_w (by rfl) 38 _ rfl _ rfl ts (fun j v hv => by rw [WideShapes.add_plain]; exact HCt.out _ H2.out.below j v hv) _ Tryz.underlying38 rfl (by rw [HD2.out.1.tlen]; kernel_rfl) ?_
       go_wp2_with fail
       refine (rtype_calls d.t ts H2.out HD2.out.1.kt HD2.out.2.2).mono ?_
       rintro e w3 ⟨rfl,h3⟩
       have H3 := Lib.hid h3
       clear h3 H2 b3
       cases hs : shapedB 40 d.t with
       | false =>
        have HZ := Lib.hid (md_df (all_bad HG.out (show dfB d = false by unfold dfB; rw [hs,Bool.and_false])))
        go_wp2
        go_ret
        exact ⟨by rw [HZ.out]; rfl,H3.out.drop⟩
       | true =>
        have HT2 := Lib.hid (all_next (p := dfB) hy0 HT.out HG.out (show dfB d = true by unfold dfB; rw [HN.out,hs]; rfl))
        go_wp2
        exact ⟨⟨y + 1,by omega,by omega,by go_num,H3,HT2⟩,by simp only [intOf]; omega⟩
     ·have hlt'' : (y < (m.df.length : Int)) = False := eq_false hly
      have HZ := Lib.hid (md_all HQ.out.1 HQ.out.2.1 HQ.out.2.2 HW.out (all_take HT.out (by omega)))
      go_wp2
      go_ret
      exact ⟨by rw [HZ.out]; rfl,HR.out.drop⟩
end Go.Proofs.YtbjddomocggjmaaGreat.Sc
end
