/- shaped of the reference of layer 8, of lists, names; Type: walked. -/
import Derived.Deep.Cut
import Derived.Test.YtbjddomocggjmaaJAt
namespace Go.Proofs.Ytbjddomocggjmaa.Sc
open Go.RowKit Go.ChangeShapes Go.WideShapes Go.Proofs.Ytbjddomocggjmaa.Sep
open Go.Proofs.YtbjddomocggjmaaW.PrintWords
variable {B : Nat} {w0 w : World} {R : HP}
set_option maxHeartbeats 16000000 in
set_option maxRecDepth 100000 in
theorem rsh9_calls (n : Nat) (ih : RShapedAt w0 n) (t : Ty) (cs : List Value) (d : Int) (hd0 : 0 ≤ d) (hd : d + n = 40) (h : S w0 w R) (hK : kTy.K w0 t cs) (ho : oTy t) (hcn : conB 40 t.c = true) (hk : t.k = 9) :
    Calls Try.prog 54 #[.agg cs.toArray, .int .i64 d] w fun e w' => e = .returned (.bool (shapedB (n + 1) t)) ∧ S w0 w' R := by
  have HE := Lib.hid (sh_G (b := shapedB n) hcn hk)
  obtain ⟨A7, c7, A10, c10, A11, c11, A12, c12, A13, c13, A14, c14, hcs, l7, g7, l10, g10, l11, g11, l12, g12, l13, g13, l14, g14⟩ := kTy_open hK
  have H := Lib.hid (h.alloc (.cells cs.toArray 55))
  have HG := Lib.hid (And.intro g10 (And.intro g11 (And.intro g12 (And.intro g13 (And.intro g14 (ho 1))))))
  have HC := Lib.hid (And.intro hcs (And.intro hK (And.intro ho (And.intro (kTy.K_len hK) (And.intro hcn (And.intro hd0 hd))))))
  have HI := Lib.hid ih
  have HCon := Lib.hid (rcon40_calls t.c A7 c7 H.out g7)
  rw [hcn] at HCon
  obtain ⟨d0, d1, d2, d3, d4, d5, d6, d7, d8, d9, d10, d11, d12, d13, d14⟩ := ty_cellsC hcs H.out
  have p0 := eq_false (show ¬ 40 < d by omega)
  have m1 : (t.k == 1) = false := beq_eq_false_iff_ne.2 (by omega)
  have m4 : (t.k == 4) = false := beq_eq_false_iff_ne.2 (by omega)
  have m2 : (t.k == 2) = false := beq_eq_false_iff_ne.2 (by omega)
  have m5 : (t.k == 5) = false := beq_eq_false_iff_ne.2 (by omega)
  have m6 : (t.k == 6) = false := beq_eq_false_iff_ne.2 (by omega)
  have m7 : (t.k == 7) = false := beq_eq_false_iff_ne.2 (by omega)
  have m3 : (t.k == 3) = false := beq_eq_false_iff_ne.2 (by omega)
  have m8 : (t.k == 8) = false := beq_eq_false_iff_ne.2 (by omega)
  have m10 : (t.k == 10) = false := beq_eq_false_iff_ne.2 (by omega)
  have m9 : (t.k == 9) = true := beq_iff_eq.2 hk
  clear h hK ho hcs l7 l10 g10 l11 g11 l12 g12 l13 g13 l14 g14 g7 ih hk hcn
  go_enter Try.func54, Try.ntmps54
  go_wp2_with fail
  refine HCon.out.mono ?_
  rintro e w1 ⟨rfl, h1⟩
  have H1 := Lib.hid h1
  clear h1 HCon H d0 d1 d2 d3 d4 d5 d6 d7 d8 d9 d10 d11 d12 d13 d14
  obtain ⟨d0, d1, d2, d3, d4, d5, d6, d7, d8, d9, d10, d11, d12, d13, d14⟩ := ty_cellsC HC.out.1 H1.out
  go_wp2_with (refine held_load 55 _ rfl ?_)
  refine ⟨?_⟩
  refine wpList_load_cells rfl 55 _ rfl ⟨w.heap.size, 0, none⟩ rfl cs (blk_cells H1.out) _ Try.underlying55 rfl (by rw [HC.out.2.2.2.1]; kernel_rfl) ?_
  go_wp2_with fail
  refine (only5_calls t cs H1.out HC.out.2.1 HC.out.2.2.1).mono ?_
  rintro e w2 ⟨rfl, h2⟩
  have H2 := Lib.hid h2
  clear h2 H1 d0 d1 d2 d3 d4 d5 d6 d7 d8 d9 d10 d11 d12 d13 d14
  obtain ⟨d0, d1, d2, d3, d4, d5, d6, d7, d8, d9, d10, d11, d12, d13, d14⟩ := ty_cellsC HC.out.1 H2.out
  cases q0 : onlyB false true true false false false true t with
  | false =>
    go_wp2
    go_ret
    exact ⟨by rw [show shapedB (n + 1) t = shapedS (shapedB n) t from rfl, HE.out, q0]; rfl, H2.out.drop⟩
  | true =>
    go_wp2_with (refine held_load 55 _ rfl ?_)
    refine ⟨?_⟩
    refine wpList_load_cells_w (by rfl) 55 _ rfl ⟨w.heap.size, 0, none⟩ rfl cs (blk_cells H2.out) _ Try.underlying55 rfl (by rw [HC.out.2.2.2.1]; kernel_rfl) ?_
    go_wp2_with fail
    refine (rsized_calls t cs H2.out HC.out.2.1).mono ?_
    rintro e w3 ⟨rfl, h2⟩
    have H3 := Lib.hid h2
    clear h2 H2 d0 d1 d2 d3 d4 d5 d6 d7 d8 d9 d10 d11 d12 d13 d14
    obtain ⟨d0, d1, d2, d3, d4, d5, d6, d7, d8, d9, d10, d11, d12, d13, d14⟩ := ty_cellsC HC.out.1 H3.out
    cases q1 : (conB 40 t.c && !(t.e && (t.c.f0 == 0))) with
    | false =>
      go_wp2
      go_ret
      exact ⟨by rw [show shapedB (n + 1) t = shapedS (shapedB n) t from rfl, HE.out, q0, q1]; rfl, H3.out.drop⟩
    | true =>
      cases q2 : ((t.el.length : Int) == 1) with
      | false =>
        go_wp2
        go_ret
        exact ⟨by rw [show shapedB (n + 1) t = shapedS (shapedB n) t from rfl, HE.out, q0, q1, q2]; rfl, H3.out.drop⟩
      | true =>
        have hel : (t.el.length : Int) = 1 := by simpa using q2
        obtain ⟨ad7, vs, eA, hcl, hKv, hcell7⟩ := Kd.C_get HG.out.2.2.2.2.1 zTy 0 (by omega) (by omega)
        have HKv : Hid (kTy.K w0 (t.el.getD (0 : Int).toNat zTy) vs ∧ vs.length = 15 ∧ oTy (t.el.getD (0 : Int).toNat zTy)) := Lib.hid ⟨hKv, hcl, fun dd => (HC.out.2.2.1 (dd + 1)).2.2.2.2.2.2.2.2.2 _ (List.mem_of_getElem? (getD_mem t.el zTy 0 (by omega) (by omega)))⟩
        have HCv : Hid (∀ (j : Nat) (u : Value), vs[j]? = some u → w3.cell? (ad7.add j) = some u) := Lib.hid fun j u hu => by
          have := pw_cell_below H3.out.below (hcell7 j u hu)
          rwa [show (0 : Int).toNat * kTy.sz + j = j by simp] at this
        have HX : Hid (elB (shapedB n) t.el = shapedB n (t.el.getD (0 : Int).toNat zTy)) := Lib.hid (by obtain ⟨a, ha⟩ := len1 (show t.el.length = 1 by omega); rw [ha]; rfl)
        rw [HX.out] at HE
        have y3 := eq_true (show (0 : Int) < t.el.length by omega)
        have y4 := eq_true (show 0 < t.el.length by omega)
        rw [eA] at d14
        clear hel hKv hcl hcell7
        go_wp2_with (refine held_load 55 _ rfl ?_)
        refine ⟨?_⟩
        refine wpList_load_cells_w (by rfl) 55 _ rfl ad7 rfl vs HCv.out _ Try.underlying55 rfl (by rw [HKv.out.2.1]; kernel_rfl) ?_
        go_wp2_with fail
        refine (HI.out _ _ _ vs (d + 1) (by have := HC.out.2.2.2.2.2; omega) (by have := HC.out.2.2.2.2.2; omega) H3.out HKv.out.1 HKv.out.2.2).mono ?_
        rintro e w5 ⟨rfl, h2⟩
        have H5 := Lib.hid h2
        clear h2 H3 d0 d1 d2 d3 d4 d5 d6 d7 d8 d9 d10 d11 d12 d13 d14
        obtain ⟨d0, d1, d2, d3, d4, d5, d6, d7, d8, d9, d10, d11, d12, d13, d14⟩ := ty_cellsC HC.out.1 H5.out
        cases q3 : shapedB n (t.el.getD (0 : Int).toNat zTy) with
        | false =>
          go_wp2
          go_ret
          exact ⟨by rw [show shapedB (n + 1) t = shapedS (shapedB n) t from rfl, HE.out, q0, q1, q2, q3]; rfl, H5.out.drop⟩
        | true =>
          go_wp2
          go_ret
          exact ⟨by rw [show shapedB (n + 1) t = shapedS (shapedB n) t from rfl, HE.out, q0, q1, q2, q3]; rfl, H5.out.drop⟩
set_option maxHeartbeats 16000000 in
set_option maxRecDepth 100000 in
theorem rsh11_calls (n : Nat) (ih : RShapedAt w0 n) (t : Ty) (cs : List Value) (d : Int) (hd0 : 0 ≤ d) (hd : d + n = 40) (h : S w0 w R) (hK : kTy.K w0 t cs) (ho : oTy t) (hcn : conB 40 t.c = true) (hk : t.k = 11) :
    Calls Try.prog 54 #[.agg cs.toArray, .int .i64 d] w fun e w' => e = .returned (.bool (shapedB (n + 1) t)) ∧ S w0 w' R := by
  have HE := Lib.hid (sh_H (b := shapedB n) hcn hk)
  obtain ⟨A7, c7, A10, c10, A11, c11, A12, c12, A13, c13, A14, c14, hcs, l7, g7, l10, g10, l11, g11, l12, g12, l13, g13, l14, g14⟩ := kTy_open hK
  have H := Lib.hid (h.alloc (.cells cs.toArray 55))
  have HG := Lib.hid (And.intro g10 (And.intro g11 (And.intro g12 (And.intro g13 (And.intro g14 (ho 1))))))
  have HC := Lib.hid (And.intro hcs (And.intro hK (And.intro ho (And.intro (kTy.K_len hK) (And.intro hcn (And.intro hd0 hd))))))
  have HI := Lib.hid ih
  have HCon := Lib.hid (rcon40_calls t.c A7 c7 H.out g7)
  rw [hcn] at HCon
  obtain ⟨d0, d1, d2, d3, d4, d5, d6, d7, d8, d9, d10, d11, d12, d13, d14⟩ := ty_cellsC hcs H.out
  have p0 := eq_false (show ¬ 40 < d by omega)
  have m1 : (t.k == 1) = false := beq_eq_false_iff_ne.2 (by omega)
  have m4 : (t.k == 4) = false := beq_eq_false_iff_ne.2 (by omega)
  have m2 : (t.k == 2) = false := beq_eq_false_iff_ne.2 (by omega)
  have m5 : (t.k == 5) = false := beq_eq_false_iff_ne.2 (by omega)
  have m6 : (t.k == 6) = false := beq_eq_false_iff_ne.2 (by omega)
  have m7 : (t.k == 7) = false := beq_eq_false_iff_ne.2 (by omega)
  have m3 : (t.k == 3) = false := beq_eq_false_iff_ne.2 (by omega)
  have m8 : (t.k == 8) = false := beq_eq_false_iff_ne.2 (by omega)
  have m10 : (t.k == 10) = false := beq_eq_false_iff_ne.2 (by omega)
  have m9 : (t.k == 9) = false := beq_eq_false_iff_ne.2 (by omega)
  have m11 : (t.k == 11) = true := beq_iff_eq.2 hk
  clear h hK ho hcs l7 l10 g10 l11 g11 l12 g12 l13 g13 l14 g14 g7 ih hk hcn
  go_enter Try.func54, Try.ntmps54
  go_wp2_with fail
  refine HCon.out.mono ?_
  rintro e w1 ⟨rfl, h1⟩
  have H1 := Lib.hid h1
  clear h1 HCon H d0 d1 d2 d3 d4 d5 d6 d7 d8 d9 d10 d11 d12 d13 d14
  obtain ⟨d0, d1, d2, d3, d4, d5, d6, d7, d8, d9, d10, d11, d12, d13, d14⟩ := ty_cellsC HC.out.1 H1.out
  go_wp2_with (refine held_load 55 _ rfl ?_)
  refine ⟨?_⟩
  refine wpList_load_cells rfl 55 _ rfl ⟨w.heap.size, 0, none⟩ rfl cs (blk_cells H1.out) _ Try.underlying55 rfl (by rw [HC.out.2.2.2.1]; kernel_rfl) ?_
  go_wp2_with fail
  refine (only6_calls t cs H1.out HC.out.2.1 HC.out.2.2.1).mono ?_
  rintro e w2 ⟨rfl, h2⟩
  have H2 := Lib.hid h2
  clear h2 H1 d0 d1 d2 d3 d4 d5 d6 d7 d8 d9 d10 d11 d12 d13 d14
  obtain ⟨d0, d1, d2, d3, d4, d5, d6, d7, d8, d9, d10, d11, d12, d13, d14⟩ := ty_cellsC HC.out.1 H2.out
  cases q0 : onlyB true false false false false false false t with
  | false =>
    go_wp2
    go_ret
    exact ⟨by rw [show shapedB (n + 1) t = shapedS (shapedB n) t from rfl, HE.out, q0]; rfl, H2.out.drop⟩
  | true =>
    go_wp2_with fail
    refine (rname_calls t.n H2.out HG.out.2.2.2.2.2.2.1).mono ?_
    rintro e w3 ⟨rfl, h2⟩
    have H3 := Lib.hid h2
    clear h2 H2 d0 d1 d2 d3 d4 d5 d6 d7 d8 d9 d10 d11 d12 d13 d14
    obtain ⟨d0, d1, d2, d3, d4, d5, d6, d7, d8, d9, d10, d11, d12, d13, d14⟩ := ty_cellsC HC.out.1 H3.out
    cases q1 : nameB t.n with
    | false =>
      go_wp2
      go_ret
      exact ⟨by rw [show shapedB (n + 1) t = shapedS (shapedB n) t from rfl, HE.out, q0, q1]; rfl, H3.out.drop⟩
    | true =>
      go_wp2
      go_ret
      exact ⟨by rw [show shapedB (n + 1) t = shapedS (shapedB n) t from rfl, HE.out, q0, q1]; rfl, H3.out.drop⟩
set_option maxHeartbeats 16000000 in
set_option maxRecDepth 100000 in
theorem rsh_zero : RShapedAt w0 0 := by
  intro W Q t cs d hd0 hd h hK ho
  obtain rfl : d = 41 := by omega
  have e : shapedB 0 t = false := rfl
  rw [e]
  have H := Lib.hid (h.alloc (.cells cs.toArray 55))
  clear h hK ho hd hd0 e
  go_enter Try.func54, Try.ntmps54
  go_wp2
  go_ret
  exact ⟨rfl, H.out.drop⟩
set_option maxHeartbeats 16000000 in
set_option maxRecDepth 100000 in
theorem rsh_con (n : Nat) (t : Ty) (cs : List Value) (d : Int) (hd : d ≤ 40) (h : S w0 w R) (hK : kTy.K w0 t cs) (hcn : conB 40 t.c = false) :
    Calls Try.prog 54 #[.agg cs.toArray, .int .i64 d] w fun e w' => e = .returned (.bool (shapedB (n + 1) t)) ∧ S w0 w' R := by
  have e : shapedB (n + 1) t = false := by
    show shapedS (shapedB n) t = false
    unfold shapedS
    rw [hcn]; rfl
  rw [e]
  obtain ⟨A7, c7, A10, c10, A11, c11, A12, c12, A13, c13, A14, c14, hcs, l7, g7, -⟩ := kTy_open hK
  have H := Lib.hid (h.alloc (.cells cs.toArray 55))
  have HCon := Lib.hid (rcon40_calls t.c A7 c7 H.out g7)
  rw [hcn] at HCon
  obtain ⟨d0, d1, d2, d3, d4, d5, d6, d7, d8, d9, d10, d11, d12, d13, d14⟩ := ty_cellsC hcs H.out
  have p0 := eq_false (show ¬ 40 < d by omega)
  clear h hK hcs l7 g7 hcn e
  go_enter Try.func54, Try.ntmps54
  go_wp2_with fail
  refine HCon.out.mono ?_
  rintro e w1 ⟨rfl, h1⟩
  have H1 := Lib.hid h1
  clear h1 HCon
  go_wp2
  go_ret
  exact ⟨rfl, H1.out.drop⟩
set_option maxHeartbeats 16000000 in
set_option maxRecDepth 100000 in
theorem rsh_none (n : Nat) (t : Ty) (cs : List Value) (d : Int) (hd : d ≤ 40) (h : S w0 w R) (hK : kTy.K w0 t cs) (hcn : conB 40 t.c = true) (hk : t.k ≠ 1 ∧ t.k ≠ 2 ∧ t.k ≠ 3 ∧ t.k ≠ 4 ∧ t.k ≠ 5 ∧ t.k ≠ 6 ∧ t.k ≠ 7 ∧ t.k ≠ 8 ∧ t.k ≠ 9 ∧ t.k ≠ 10 ∧ t.k ≠ 11) :
    Calls Try.prog 54 #[.agg cs.toArray, .int .i64 d] w fun e w' => e = .returned (.bool (shapedB (n + 1) t)) ∧ S w0 w' R := by
  have e : shapedB (n + 1) t = false := by
    show shapedS (shapedB n) t = false
    unfold shapedS
    rw [if_neg (by omega), if_neg (by omega), if_neg (by omega), if_neg (by omega), if_neg (by omega), if_neg (by omega), if_neg (by omega), decide_eq_false hk.2.2.2.2.2.2.2.2.2.2]
    simp
  rw [e]
  obtain ⟨A7, c7, A10, c10, A11, c11, A12, c12, A13, c13, A14, c14, hcs, l7, g7, -⟩ := kTy_open hK
  have H := Lib.hid (h.alloc (.cells cs.toArray 55))
  have HC := Lib.hid hcs
  have HCon := Lib.hid (rcon40_calls t.c A7 c7 H.out g7)
  rw [hcn] at HCon
  obtain ⟨d0, d1, d2, d3, d4, d5, d6, d7, d8, d9, d10, d11, d12, d13, d14⟩ := ty_cellsC hcs H.out
  have p0 := eq_false (show ¬ 40 < d by omega)
  have m1 : (t.k == 1) = false := beq_eq_false_iff_ne.2 (by omega)
  have m2 : (t.k == 2) = false := beq_eq_false_iff_ne.2 (by omega)
  have m3 : (t.k == 3) = false := beq_eq_false_iff_ne.2 (by omega)
  have m4 : (t.k == 4) = false := beq_eq_false_iff_ne.2 (by omega)
  have m5 : (t.k == 5) = false := beq_eq_false_iff_ne.2 (by omega)
  have m6 : (t.k == 6) = false := beq_eq_false_iff_ne.2 (by omega)
  have m7 : (t.k == 7) = false := beq_eq_false_iff_ne.2 (by omega)
  have m8 : (t.k == 8) = false := beq_eq_false_iff_ne.2 (by omega)
  have m9 : (t.k == 9) = false := beq_eq_false_iff_ne.2 (by omega)
  have m10 : (t.k == 10) = false := beq_eq_false_iff_ne.2 (by omega)
  have m11 : (t.k == 11) = false := beq_eq_false_iff_ne.2 (by omega)
  clear h hK hcs l7 g7 hcn hk e
  go_enter Try.func54, Try.ntmps54
  go_wp2_with fail
  refine HCon.out.mono ?_
  rintro e w1 ⟨rfl, h1⟩
  have H1 := Lib.hid h1
  clear h1 HCon d0 d1 d2 d3 d4 d5 d6 d7 d8 d9 d10 d11 d12 d13 d14
  obtain ⟨d0, d1, d2, d3, d4, d5, d6, d7, d8, d9, d10, d11, d12, d13, d14⟩ := ty_cellsC HC.out H1.out
  go_wp2
  go_ret
  exact ⟨rfl, H1.out.drop⟩
theorem rshaped_at (n : Nat) : RShapedAt w0 n := by
  induction n with
  | zero => exact rsh_zero
  | succ n ih =>
    intro w R t cs d hd0 hd h hK ho
    cases hcn : conB 40 t.c with
    | false => exact rsh_con n t cs d (by omega) h hK hcn
    | true =>
      by_cases k1 : t.k = 1
      · exact rsh1_calls n ih t cs d hd0 (by omega) h hK ho hcn k1
      by_cases k2 : t.k = 2
      · exact rsh2_calls n ih t cs d hd0 (by omega) h hK ho hcn k2
      by_cases k3 : t.k = 3
      · exact rsh3_calls n ih t cs d hd0 (by omega) h hK ho hcn k3
      by_cases k4 : t.k = 4
      · exact rsh4_calls n ih t cs d hd0 (by omega) h hK ho hcn k4
      by_cases k5 : t.k = 5
      · exact rsh5_calls n ih t cs d hd0 (by omega) h hK ho hcn k5
      by_cases k6 : t.k = 6
      · exact rsh6_calls n ih t cs d hd0 (by omega) h hK ho hcn k6
      by_cases k7 : t.k = 7
      · exact rsh7_calls n ih t cs d hd0 (by omega) h hK ho hcn k7
      by_cases k8 : t.k = 8
      · exact rsh8_calls n ih t cs d hd0 (by omega) h hK ho hcn k8
      by_cases k9 : t.k = 9
      · exact rsh9_calls n ih t cs d hd0 (by omega) h hK ho hcn k9
      by_cases k10 : t.k = 10
      · exact rsh10_calls n ih t cs d hd0 (by omega) h hK ho hcn k10
      by_cases k11 : t.k = 11
      · exact rsh11_calls n ih t cs d hd0 (by omega) h hK ho hcn k11
      exact rsh_none n t cs d (by omega) h hK hcn ⟨k1, k2, k3, k4, k5, k6, k7, k8, k9, k10, k11⟩
set_option maxHeartbeats 16000000 in
set_option maxRecDepth 100000 in
theorem rtype_calls (t : Ty) (cs : List Value) (h : S w0 w R) (hK : kTy.K w0 t cs) (ho : oTy t) :
    Calls Try.prog 25 #[.agg cs.toArray] w fun e w' => e = .returned (.bool (shapedB 40 t)) ∧ S w0 w' R := by
  have H := Lib.hid (h.alloc (.cells cs.toArray 55))
  have HS := Lib.hid (rshaped_at (w0 := w0) 40 _ _ t cs 1 (by omega) (by omega) H.out hK ho)
  have HC := Lib.hid (kTy.K_len hK)
  clear h hK ho
  go_enter Try.func25, Try.ntmps25
  go_wp2_with (refine held_load 55 _ rfl ?_)
  refine ⟨?_⟩
  refine wpList_load_cells rfl 55 _ rfl ⟨w.heap.size, 0, none⟩ rfl cs (blk_cells H.out) _ Try.underlying55 rfl (by rw [HC.out]; kernel_rfl) ?_
  go_wp2_with fail
  refine HS.out.mono ?_
  rintro e w1 ⟨rfl, h1⟩
  have H1 := Lib.hid h1
  clear h1 HS
  go_wp2
  go_ret
  exact ⟨rfl, H1.out.drop⟩
end Go.Proofs.Ytbjddomocggjmaa.Sc
