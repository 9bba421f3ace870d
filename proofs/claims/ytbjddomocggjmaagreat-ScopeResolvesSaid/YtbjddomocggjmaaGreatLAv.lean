/- shaped of the reference of layer 8, of structs: walked. -/
import Derived.Deep.Cut
import Derived.Test.YtbjddomocggjmaaGreatLAt
namespace Go.Proofs.YtbjddomocggjmaaGreat.Sc
open Go.RowKit Go.ChangeShapes Go.WideShapes Go.Proofs.YtbjddomocggjmaaGreat.Sep
open Go.Proofs.YtbjddomocggjmaaGreatW.PrintWords
variable {B : Nat} {w0 w : World} {R : HP}
set_option maxHeartbeats 16000000 in
set_option maxRecDepth 100000 in
theorem rsh3_calls (n : Nat) (ih : RShapedAt w0 n) (t : Ty) (cs : List Value) (d : Int) (hd0 : 0 ≤ d) (hd : d + n = 40) (h : S w0 w R) (hK : kTy.K w0 t cs) (ho : oTy t) (hcn : conB 40 t.c = true) (hk : t.k = 3) :
  Calls Tryz.prog 69 #[.agg cs.toArray,.int .i64 d] w fun e w' => e = .returned (.bool (shapedB (n + 1) t)) ∧ S w0 w' R := by
 have HE := Lib.hid (sh_D (b := shapedB n) hcn hk)
 obtain ⟨A7,c7,A10,c10,A11,c11,A12,c12,A13,c13,A14,c14,hcs,l7,g7,l10,g10,l11,g11,l12,g12,l13,g13,l14,g14⟩ := kTy_open hK
 have H := Lib.hid (h.alloc (.cells cs.toArray 38))
 have HG := Lib.hid (And.intro g10 (And.intro g11 (And.intro g12 (And.intro g13 (And.intro g14 (ho 1))))))
 have HC := Lib.hid (And.intro hcs (And.intro hK (And.intro ho (And.intro (kTy.K_len hK) (And.intro hcn (And.intro hd0 hd))))))
 have HI := Lib.hid ih
 have HCon := Lib.hid (rcon40_calls t.c A7 c7 H.out g7)
 rw [hcn] at HCon
 obtain ⟨d0,d1,d2,d3,d4,d5,d6,d7,d8,d9,d10,d11,d12,d13,d14⟩ := ty_cellsC hcs H.out
 have p0 := eq_false (show ¬ 40 < d by omega)
 have m1 : (t.k == 1) = false := beq_eq_false_iff_ne.2 (by omega)
 have m4 : (t.k == 4) = false := beq_eq_false_iff_ne.2 (by omega)
 have m2 : (t.k == 2) = false := beq_eq_false_iff_ne.2 (by omega)
 have m5 : (t.k == 5) = false := beq_eq_false_iff_ne.2 (by omega)
 have m6 : (t.k == 6) = false := beq_eq_false_iff_ne.2 (by omega)
 have m7 : (t.k == 7) = false := beq_eq_false_iff_ne.2 (by omega)
 have m3 : (t.k == 3) = true := beq_iff_eq.2 hk
 clear h hK ho hcs l7 l10 g10 l11 g11 l12 g12 l13 g13 l14 g14 g7 ih hk hcn
 go_enter Tryz.func69,Tryz.ntmps69
 go_wp2_with fail
 refine HCon.out.mono ?_
 rintro e w1 ⟨rfl,h1⟩
 have H1 := Lib.hid h1
 clear h1 HCon H d0 d1 d2 d3 d4 d5 d6 d7 d8 d9 d10 d11 d12 d13 d14
 obtain ⟨d0,d1,d2,d3,d4,d5,d6,d7,d8,d9,d10,d11,d12,d13,d14⟩ := ty_cellsC HC.out.1 H1.out
 go_wp2_with (refine held_load 38 _ rfl ?_)
 refine ⟨?_⟩
 refine wpList_load_cells rfl 38 _ rfl ⟨w.heap.size,0,none⟩ rfl cs (blk_cells H1.out) _ Tryz.underlying38 rfl (by rw [HC.out.2.2.2.1]; kernel_rfl) ?_
 go_wp2_with fail
 refine (only3_calls t cs H1.out HC.out.2.1 HC.out.2.2.1).mono ?_
 rintro e w2 ⟨rfl,h2⟩
 have H2 := Lib.hid h2
 clear h2 H1 d0 d1 d2 d3 d4 d5 d6 d7 d8 d9 d10 d11 d12 d13 d14
 obtain ⟨d0,d1,d2,d3,d4,d5,d6,d7,d8,d9,d10,d11,d12,d13,d14⟩ := ty_cellsC HC.out.1 H2.out
 cases q0 : onlyB false false true false true false false t with
 | false =>
  go_wp2
  go_ret
  exact ⟨by rw [show shapedB (n + 1) t = shapedS (shapedB n) t from rfl,HE.out,q0]; rfl,H2.out.drop⟩
 | true =>
  cases q1 : decide (0 < t.ns.length) with
  | false =>
   have y0 := of_decide_eq_false q1
   generalize hm : t.ns.length = m at d10 y0
   have y1 := eq_false y0
   clear y0 hm
   go_wp2
   go_ret
   exact ⟨by rw [show shapedB (n + 1) t = shapedS (shapedB n) t from rfl,HE.out,q0,q1]; rfl,H2.out.drop⟩
  | true =>
   have y0 := of_decide_eq_true q1
   generalize hm : t.ns.length = m at d10 y0
   have y1 := eq_true y0
   have HM := Lib.hid hm
   clear y0 hm
   go_wp2_with fail
   have hm := HM.out
   subst hm
   refine (rnames_calls A10 c10 t.ns H2.out HG.out.1 HG.out.2.2.2.2.2.2.2.2.2.1.2).mono ?_
   rintro e w4 ⟨rfl,h2⟩
   have H4 := Lib.hid h2
   clear h2 H2 d0 d1 d2 d3 d4 d5 d6 d7 d8 d9 d10 d11 d12 d13 d14
   obtain ⟨d0,d1,d2,d3,d4,d5,d6,d7,d8,d9,d10,d11,d12,d13,d14⟩ := ty_cellsC HC.out.1 H4.out
   cases q2 : wordsB t.ns with
   | false =>
    go_wp2
    go_ret
    exact ⟨by rw [show shapedB (n + 1) t = shapedS (shapedB n) t from rfl,HE.out,q0,q1,q2]; rfl,H4.out.drop⟩
   | true =>
    go_wp2_with fail
    refine (rnames_calls A11 c11 t.mo H4.out HG.out.2.1 HG.out.2.2.2.2.2.2.2.2.2.2.1.2).mono ?_
    rintro e w5 ⟨rfl,h2⟩
    have H5 := Lib.hid h2
    clear h2 H4 d0 d1 d2 d3 d4 d5 d6 d7 d8 d9 d10 d11 d12 d13 d14
    obtain ⟨d0,d1,d2,d3,d4,d5,d6,d7,d8,d9,d10,d11,d12,d13,d14⟩ := ty_cellsC HC.out.1 H5.out
    cases q3 : wordsB t.mo with
    | false =>
     go_wp2
     go_ret
     exact ⟨by rw [show shapedB (n + 1) t = shapedS (shapedB n) t from rfl,HE.out,q0,q1,q2,q3]; rfl,H5.out.drop⟩
    | true =>
     cases q4 : (t.e || ((t.mo.length : Int) == 0)) with
     | false =>
      have e1 : t.e = false := by revert q4; cases t.e <;> simp
      have e2 : ((t.mo.length : Int) == 0) = false := by revert q4; rw [e1]; exact fun h => h
      go_wp2
      go_ret
      exact ⟨by rw [show shapedB (n + 1) t = shapedS (shapedB n) t from rfl,HE.out,q0,q1,q2,q3,q4]; rfl,H5.out.drop⟩
     | true =>
      have hq : t.e = true ∨ t.e = false ∧ ((t.mo.length : Int) == 0) = true := by revert q4; cases t.e <;> simp
      rcases hq with e1 | ⟨e1,e2⟩
      all_goals
       go_wp2
       go_ret
       exact ⟨by rw [show shapedB (n + 1) t = shapedS (shapedB n) t from rfl,HE.out,q0,q1,q2,q3,q4]; rfl,H5.out.drop⟩
set_option maxHeartbeats 16000000 in
set_option maxRecDepth 100000 in
theorem rsh8_calls (n : Nat) (ih : RShapedAt w0 n) (t : Ty) (cs : List Value) (d : Int) (hd0 : 0 ≤ d) (hd : d + n = 40) (h : S w0 w R) (hK : kTy.K w0 t cs) (ho : oTy t) (hcn : conB 40 t.c = true) (hk : t.k = 8) :
  Calls Tryz.prog 69 #[.agg cs.toArray,.int .i64 d] w fun e w' => e = .returned (.bool (shapedB (n + 1) t)) ∧ S w0 w' R := by
 have HE := Lib.hid (sh_E (b := shapedB n) hcn hk)
 obtain ⟨A7,c7,A10,c10,A11,c11,A12,c12,A13,c13,A14,c14,hcs,l7,g7,l10,g10,l11,g11,l12,g12,l13,g13,l14,g14⟩ := kTy_open hK
 have H := Lib.hid (h.alloc (.cells cs.toArray 38))
 have HG := Lib.hid (And.intro g10 (And.intro g11 (And.intro g12 (And.intro g13 (And.intro g14 (ho 1))))))
 have HC := Lib.hid (And.intro hcs (And.intro hK (And.intro ho (And.intro (kTy.K_len hK) (And.intro hcn (And.intro hd0 hd))))))
 have HI := Lib.hid ih
 have HCon := Lib.hid (rcon40_calls t.c A7 c7 H.out g7)
 rw [hcn] at HCon
 obtain ⟨d0,d1,d2,d3,d4,d5,d6,d7,d8,d9,d10,d11,d12,d13,d14⟩ := ty_cellsC hcs H.out
 have p0 := eq_false (show ¬ 40 < d by omega)
 have m1 : (t.k == 1) = false := beq_eq_false_iff_ne.2 (by omega)
 have m4 : (t.k == 4) = false := beq_eq_false_iff_ne.2 (by omega)
 have m2 : (t.k == 2) = false := beq_eq_false_iff_ne.2 (by omega)
 have m5 : (t.k == 5) = false := beq_eq_false_iff_ne.2 (by omega)
 have m6 : (t.k == 6) = false := beq_eq_false_iff_ne.2 (by omega)
 have m7 : (t.k == 7) = false := beq_eq_false_iff_ne.2 (by omega)
 have m3 : (t.k == 3) = false := beq_eq_false_iff_ne.2 (by omega)
 have m8 : (t.k == 8) = true := beq_iff_eq.2 hk
 have m10 : (t.k == 10) = false := beq_eq_false_iff_ne.2 (by omega)
 clear h hK ho hcs l7 l10 g10 l11 g11 l12 g12 l13 g13 l14 g14 g7 ih hk hcn
 go_enter Tryz.func69,Tryz.ntmps69
 go_wp2_with fail
 refine HCon.out.mono ?_
 rintro e w1 ⟨rfl,h1⟩
 have H1 := Lib.hid h1
 clear h1 HCon H d0 d1 d2 d3 d4 d5 d6 d7 d8 d9 d10 d11 d12 d13 d14
 obtain ⟨d0,d1,d2,d3,d4,d5,d6,d7,d8,d9,d10,d11,d12,d13,d14⟩ := ty_cellsC HC.out.1 H1.out
 go_wp2_with (refine held_load 38 _ rfl ?_)
 refine ⟨?_⟩
 refine wpList_load_cells rfl 38 _ rfl ⟨w.heap.size,0,none⟩ rfl cs (blk_cells H1.out) _ Tryz.underlying38 rfl (by rw [HC.out.2.2.2.1]; kernel_rfl) ?_
 go_wp2_with fail
 refine (only4_calls t cs H1.out HC.out.2.1 HC.out.2.2.1).mono ?_
 rintro e w2 ⟨rfl,h2⟩
 have H2 := Lib.hid h2
 clear h2 H1 d0 d1 d2 d3 d4 d5 d6 d7 d8 d9 d10 d11 d12 d13 d14
 obtain ⟨d0,d1,d2,d3,d4,d5,d6,d7,d8,d9,d10,d11,d12,d13,d14⟩ := ty_cellsC HC.out.1 H2.out
 cases q0 : onlyB false false true false false true false t with
 | false =>
  go_wp2
  go_ret
  exact ⟨by rw [show shapedB (n + 1) t = shapedS (shapedB n) t from rfl,HE.out,q0]; rfl,H2.out.drop⟩
 | true =>
  cases q1 : (t.e || ((t.ad.length : Int) == 0)) with
  | false =>
   have e1 : t.e = false := by revert q1; cases t.e <;> simp
   have e2 : ((t.ad.length : Int) == 0) = false := by revert q1; rw [e1]; exact fun h => h
   go_wp2
   go_ret
   exact ⟨by rw [show shapedB (n + 1) t = shapedS (shapedB n) t from rfl,HE.out,q0,q1]; rfl,H2.out.drop⟩
  | true =>
   have hq : t.e = true ∨ t.e = false ∧ ((t.ad.length : Int) == 0) = true := by revert q1; cases t.e <;> simp
   rcases hq with e1 | ⟨e1,e2⟩
   all_goals
    go_wp2_with fail
    refine (rparts0_calls n HI.out A12 c12 t.ps (d + 1) (by have := HC.out.2.2.2.2.2; omega) (by have := HC.out.2.2.2.2.2; omega) H2.out HG.out.2.2.1 (oTy_parts HC.out.2.2.1).2.2.2.1.2).mono ?_
    rintro e w4 ⟨rfl,h2⟩
    have H4 := Lib.hid h2
    clear h2 H2 d0 d1 d2 d3 d4 d5 d6 d7 d8 d9 d10 d11 d12 d13 d14
    obtain ⟨d0,d1,d2,d3,d4,d5,d6,d7,d8,d9,d10,d11,d12,d13,d14⟩ := ty_cellsC HC.out.1 H4.out
    cases q2 : partsB (shapedB n) false t.ps with
    | false =>
     go_wp2
     go_ret
     exact ⟨by rw [show shapedB (n + 1) t = shapedS (shapedB n) t from rfl,HE.out,q0,q1,q2]; rfl,H4.out.drop⟩
    | true =>
     go_wp2_with fail
     refine (rparts0_calls n HI.out A13 c13 t.ad (d + 1) (by have := HC.out.2.2.2.2.2; omega) (by have := HC.out.2.2.2.2.2; omega) H4.out HG.out.2.2.2.1 (oTy_parts HC.out.2.2.1).2.2.2.2.1.2).mono ?_
     rintro e w5 ⟨rfl,h2⟩
     have H5 := Lib.hid h2
     clear h2 H4 d0 d1 d2 d3 d4 d5 d6 d7 d8 d9 d10 d11 d12 d13 d14
     obtain ⟨d0,d1,d2,d3,d4,d5,d6,d7,d8,d9,d10,d11,d12,d13,d14⟩ := ty_cellsC HC.out.1 H5.out
     cases q3 : partsB (shapedB n) false t.ad with
     | false =>
      go_wp2
      go_ret
      exact ⟨by rw [show shapedB (n + 1) t = shapedS (shapedB n) t from rfl,HE.out,q0,q1,q2,q3]; rfl,H5.out.drop⟩
     | true =>
      go_wp2
      go_ret
      exact ⟨by rw [show shapedB (n + 1) t = shapedS (shapedB n) t from rfl,HE.out,q0,q1,q2,q3]; rfl,H5.out.drop⟩
set_option maxHeartbeats 16000000 in
set_option maxRecDepth 100000 in
theorem rsh10_calls (n : Nat) (ih : RShapedAt w0 n) (t : Ty) (cs : List Value) (d : Int) (hd0 : 0 ≤ d) (hd : d + n = 40) (h : S w0 w R) (hK : kTy.K w0 t cs) (ho : oTy t) (hcn : conB 40 t.c = true) (hk : t.k = 10) :
  Calls Tryz.prog 69 #[.agg cs.toArray,.int .i64 d] w fun e w' => e = .returned (.bool (shapedB (n + 1) t)) ∧ S w0 w' R := by
 have HE := Lib.hid (sh_F (b := shapedB n) hcn hk)
 obtain ⟨A7,c7,A10,c10,A11,c11,A12,c12,A13,c13,A14,c14,hcs,l7,g7,l10,g10,l11,g11,l12,g12,l13,g13,l14,g14⟩ := kTy_open hK
 have H := Lib.hid (h.alloc (.cells cs.toArray 38))
 have HG := Lib.hid (And.intro g10 (And.intro g11 (And.intro g12 (And.intro g13 (And.intro g14 (ho 1))))))
 have HC := Lib.hid (And.intro hcs (And.intro hK (And.intro ho (And.intro (kTy.K_len hK) (And.intro hcn (And.intro hd0 hd))))))
 have HI := Lib.hid ih
 have HCon := Lib.hid (rcon40_calls t.c A7 c7 H.out g7)
 rw [hcn] at HCon
 obtain ⟨d0,d1,d2,d3,d4,d5,d6,d7,d8,d9,d10,d11,d12,d13,d14⟩ := ty_cellsC hcs H.out
 have p0 := eq_false (show ¬ 40 < d by omega)
 have m1 : (t.k == 1) = false := beq_eq_false_iff_ne.2 (by omega)
 have m4 : (t.k == 4) = false := beq_eq_false_iff_ne.2 (by omega)
 have m2 : (t.k == 2) = false := beq_eq_false_iff_ne.2 (by omega)
 have m5 : (t.k == 5) = false := beq_eq_false_iff_ne.2 (by omega)
 have m6 : (t.k == 6) = false := beq_eq_false_iff_ne.2 (by omega)
 have m7 : (t.k == 7) = false := beq_eq_false_iff_ne.2 (by omega)
 have m3 : (t.k == 3) = false := beq_eq_false_iff_ne.2 (by omega)
 have m8 : (t.k == 8) = false := beq_eq_false_iff_ne.2 (by omega)
 have m10 : (t.k == 10) = true := beq_iff_eq.2 hk
 have m9 : (t.k == 9) = false := beq_eq_false_iff_ne.2 (by omega)
 have m11 : (t.k == 11) = false := beq_eq_false_iff_ne.2 (by omega)
 clear h hK ho hcs l7 l10 g10 l11 g11 l12 g12 l13 g13 l14 g14 g7 ih hk hcn
 go_enter Tryz.func69,Tryz.ntmps69
 go_wp2_with fail
 refine HCon.out.mono ?_
 rintro e w1 ⟨rfl,h1⟩
 have H1 := Lib.hid h1
 clear h1 HCon H d0 d1 d2 d3 d4 d5 d6 d7 d8 d9 d10 d11 d12 d13 d14
 obtain ⟨d0,d1,d2,d3,d4,d5,d6,d7,d8,d9,d10,d11,d12,d13,d14⟩ := ty_cellsC HC.out.1 H1.out
 go_wp2_with (refine held_load 38 _ rfl ?_)
 refine ⟨?_⟩
 refine wpList_load_cells rfl 38 _ rfl ⟨w.heap.size,0,none⟩ rfl cs (blk_cells H1.out) _ Tryz.underlying38 rfl (by rw [HC.out.2.2.2.1]; kernel_rfl) ?_
 go_wp2_with fail
 refine (only4_calls t cs H1.out HC.out.2.1 HC.out.2.2.1).mono ?_
 rintro e w2 ⟨rfl,h2⟩
 have H2 := Lib.hid h2
 clear h2 H1 d0 d1 d2 d3 d4 d5 d6 d7 d8 d9 d10 d11 d12 d13 d14
 obtain ⟨d0,d1,d2,d3,d4,d5,d6,d7,d8,d9,d10,d11,d12,d13,d14⟩ := ty_cellsC HC.out.1 H2.out
 cases q0 : onlyB false false true false false true false t with
 | false =>
  go_wp2
  go_ret
  exact ⟨by rw [show shapedB (n + 1) t = shapedS (shapedB n) t from rfl,HE.out,q0]; rfl,H2.out.drop⟩
 | true =>
  cases q1 : (t.e || ((t.ad.length : Int) == 0)) with
  | false =>
   have e1 : t.e = false := by revert q1; cases t.e <;> simp
   have e2 : ((t.ad.length : Int) == 0) = false := by revert q1; rw [e1]; exact fun h => h
   go_wp2
   go_ret
   exact ⟨by rw [show shapedB (n + 1) t = shapedS (shapedB n) t from rfl,HE.out,q0,q1]; rfl,H2.out.drop⟩
  | true =>
   have hq : t.e = true ∨ t.e = false ∧ ((t.ad.length : Int) == 0) = true := by revert q1; cases t.e <;> simp
   rcases hq with e1 | ⟨e1,e2⟩
   all_goals
    cases q2 : decide (0 < t.ps.length) with
    | false =>
     have y0 := of_decide_eq_false q2
     generalize hm : t.ps.length = m at d12 y0
     have y1 := eq_false y0
     clear y0 hm
     go_wp2
     go_ret
     exact ⟨by rw [show shapedB (n + 1) t = shapedS (shapedB n) t from rfl,HE.out,q0,q1,q2]; rfl,H2.out.drop⟩
    | true =>
     have y0 := of_decide_eq_true q2
     generalize hm : t.ps.length = m at d12 y0
     have y1 := eq_true y0
     have HM := Lib.hid hm
     clear y0 hm
     go_wp2_with fail
     have hm := HM.out
     subst hm
     refine (rparts1_calls n HI.out A12 c12 t.ps (d + 1) (by have := HC.out.2.2.2.2.2; omega) (by have := HC.out.2.2.2.2.2; omega) H2.out HG.out.2.2.1 (oTy_parts HC.out.2.2.1).2.2.2.1.2).mono ?_
     rintro e w5 ⟨rfl,h2⟩
     have H5 := Lib.hid h2
     clear h2 H2 d0 d1 d2 d3 d4 d5 d6 d7 d8 d9 d10 d11 d12 d13 d14
     obtain ⟨d0,d1,d2,d3,d4,d5,d6,d7,d8,d9,d10,d11,d12,d13,d14⟩ := ty_cellsC HC.out.1 H5.out
     cases q3 : partsB (shapedB n) true t.ps with
     | false =>
      go_wp2
      go_ret
      exact ⟨by rw [show shapedB (n + 1) t = shapedS (shapedB n) t from rfl,HE.out,q0,q1,q2,q3]; rfl,H5.out.drop⟩
     | true =>
      go_wp2_with fail
      refine (rparts1_calls n HI.out A13 c13 t.ad (d + 1) (by have := HC.out.2.2.2.2.2; omega) (by have := HC.out.2.2.2.2.2; omega) H5.out HG.out.2.2.2.1 (oTy_parts HC.out.2.2.1).2.2.2.2.1.2).mono ?_
      rintro e w6 ⟨rfl,h2⟩
      have H6 := Lib.hid h2
      clear h2 H5 d0 d1 d2 d3 d4 d5 d6 d7 d8 d9 d10 d11 d12 d13 d14
      obtain ⟨d0,d1,d2,d3,d4,d5,d6,d7,d8,d9,d10,d11,d12,d13,d14⟩ := ty_cellsC HC.out.1 H6.out
      cases q4 : partsB (shapedB n) true t.ad with
      | false =>
       go_wp2
       go_ret
       exact ⟨by rw [show shapedB (n + 1) t = shapedS (shapedB n) t from rfl,HE.out,q0,q1,q2,q3,q4]; rfl,H6.out.drop⟩
      | true =>
       go_wp2
       go_ret
       exact ⟨by rw [show shapedB (n + 1) t = shapedS (shapedB n) t from rfl,HE.out,q0,q1,q2,q3,q4]; rfl,H6.out.drop⟩
end Go.Proofs.YtbjddomocggjmaaGreat.Sc
