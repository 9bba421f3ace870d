/- named of the reference of layer 10: walked whole. -/
import Derived.Deep.QuietTactic
import Derived.Deep.Cut
import Derived.Test.YtbjddomocggjmaaGreatLAj
namespace Go.Proofs.YtbjddomocggjmaaGreat.Sc
open Go.RowKit Go.ChangeShapes Go.WideShapes Go.Proofs.YtbjddomocggjmaaGreat.Sep
open Go.Proofs.YtbjddomocggjmaaGreatW.PrintWords
variable {B : Nat} {w0 w : World} {R : HP}
theorem step_appR {P : Program} {ops : Array Oper} {o : Oper} {a : Act} {K : Act → World → Prop} {Q : Exit → Act → World → Prop} {X : Prop} (hw : Region.wanted o (yielded ops a.tmps) = true) (s x : Operand) {t e : TypeId} (ht : P.underlying t = some (.slice e)) {z : Value} {size bytes : Nat}
  (hi : (P.info? e).map (fun i => (i.zero,i.size,i.bytes)) = some (some z,size,bytes)) (hzs : z.cells.size = size) (hsz : 0 < size)
  (ho : o.op = .call { callee := .builtin .append,args := #[s,x],argTypes := #[t,t] }) (v : Value) (n : Nat) (xs : List Value)
  (hs : a.eval s = v) (h : St B w0 w (RowV e size v n xs • R)) {A : Option Addr} {m c : Nat} {news : List Value} (hx : a.eval x = .slice A m c) (hl : news.length = m * size) (hr : ∀ j u,news[j]? = some u → ∃ ad,A = some ad ∧ w.cell? (ad.add j) = some u) (h1 : ∀ u ∈ news,u.oneCell' = true) (h63 : n + m ≤ maxLen) (hb : (n + m) * bytes ≤ 140737488355328)
  (hK : ∀ v' w',St B w0 w' (RowV e size v' (n + m) (xs ++ news) • R) → K (a.put o.dst v') w') : if Region.wanted o (yielded ops a.tmps) = true then Oper.wp P o a w K Q else X := by
 rw [if_pos hw]
 exact wp_append s x ht hi hzs hsz ho v n xs hs h hx hl hr h1 h63 hb hK
set_option maxHeartbeats 16000000 in
set_option maxRecDepth 100000 in
theorem named_other (m : Md) (mc : List Value) (hmc : kMd.K w0 m mc) (n : Nat) (ih : NmAt w0 m mc n) (t : Ty) (cs : List Value) (h : S w0 w R) (hK : kTy.K w0 t cs) (ho : oTy t) (hs : shapedB (n + 1) t = true) (hk : t.k ≠ 11) :
  Calls Tryz.prog 21 #[.agg mc.toArray,.agg cs.toArray] w fun e w' => ∃ qs : List Value,qs.length = 15 ∧ (∀ u ∈ qs,u.oneCell' = true) ∧ e = .returned (.tuple #[.agg qs.toArray,.bool (typP (rlook m) (n + 1) t).isSome]) ∧ S w0 w' (Vw w0 w0.heap.size (fun W => ∀ r,typP (rlook m) (n + 1) t = some r → kTy.K W r qs) • R) := by
 have eT : typP (rlook m) (n + 1) t = if onceB (ptNames t.ps ++ ptNames t.ad) = true ∧ onceB (t.ns ++ t.mo) = true then elsP (typP (rlook m) n) t else none := if_neg hk
 have hh := shaped_has (b := shapedB n) hs
 have hp := oTyP ho
 obtain ⟨A7,c7,A10,c10,A11,c11,A12,c12,A13,c13,A14,c14,rfl,l7,g7,l10,g10,l11,g11,l12,g12,l13,g13,l14,g14⟩ := kTy_open hK
 have HC := Lib.hid (And.intro g7 (And.intro g10 (And.intro g11 (And.intro g12 (And.intro g13 g14)))))
 have HL := Lib.hid (And.intro l7 (And.intro l10 l11))
 have HM : Hid (kMd.K w0 m mc ∧ mc.length = 4) := Lib.hid (And.intro hmc (kMd.K_len hmc))
 have HI := Lib.hid ih
 have HB := Lib.hid (And.intro hh.ps.1 (And.intro hh.ad.1 (And.intro hh.ns hh.mo)))
 have HEl := Lib.hid (And.intro hp.2.2.1.2 (And.intro hh.el.2 hh.el.1))
 have hlel : t.el.length ≤ 9223372036854775807 := by have := hh.el.1; omega
 have HPs := Lib.hid (And.intro hp.1.2 fun p hm => (hh.ps.2 p hm).1)
 have HAd := Lib.hid (And.intro hp.2.1.2 fun p hm => (hh.ad.2 p hm).1)
 have HET := Lib.hid eT
 show Calls Tryz.prog 21 #[.agg mc.toArray,.agg #[.int .i64 t.k,.string t.n,.int .i64 t.c.f0,.int .i64 t.c.f1,.int .i64 t.c.f2,.bool t.c.f3,.bool t.c.f4,.slice A7 t.c.f5.length c7,.bool t.e,.string t.fr,.slice A10 t.ns.length c10,.slice A11 t.mo.length c11,.slice A12 t.ps.length c12,.slice A13 t.ad.length c13,.slice A14 t.el.length c14]] w _
 have p1 : (t.k == 11) = false := beq_eq_false_iff_ne.2 hk
 generalize hg : w.heap.size = g
 have H := Lib.hid (alloc_at (n := g + 2) (alloc_at (n := g + 1) (alloc_at (n := g) h (.cells mc.toArray 44) hg.symm) (.cells #[.int .i64 t.k,.string t.n,.int .i64 t.c.f0,.int .i64 t.c.f1,.int .i64 t.c.f2,.bool t.c.f3,.bool t.c.f4,.slice A7 t.c.f5.length c7,.bool t.e,.string t.fr,.slice A10 t.ns.length c10,.slice A11 t.mo.length c11,.slice A12 t.ps.length c12,.slice A13 t.ad.length c13,.slice A14 t.el.length c14] 38) (by simp [hg])) (.cells #[.int .i64 0,.string ⟨#[]⟩,.int .i64 0,.int .i64 0,.int .i64 0,.bool false,.bool false,.slice none 0 0,.bool false,.string ⟨#[]⟩,.slice none 0 0,.slice none 0 0,.slice none 0 0,.slice none 0 0,.slice none 0 0] 38) (by simp [hg]))
 have d0 := H.out.two.cell 0 (v := .int .i64 t.k) rfl
 have d12 := H.out.two.cell 12 (v := .slice A12 t.ps.length c12) rfl
 clear h hK hmc ih ho hs hk eT hh hp l7 g7 l10 g10 l11 g11 l12 g12 l13 g13 l14 g14
 go_enter Tryz.func21,Tryz.ntmps21
 go_wp2_with (refine held_load 44 _ rfl ?_)
 refine ⟨?_⟩
 refine wpList_load_cells rfl 44 _ rfl _ rfl mc (blk_cellsR H.out.three) _ Tryz.underlying44 rfl (by rw [HM.out.2]; kernel_rfl) ?_
 go_wp2_with fail
 refine (rparts_calls m mc HM.out.1 n HI.out A12 c12 t.ps H.out HC.out.2.2.2.1 HPs.out.1 HB.out.1 HPs.out.2).mono ?_
 rintro e w1 ⟨A20,n20,c20,rfl,h1⟩
 have H1 := Lib.hid h1
 clear h1 H d0 d12
 have d13 := H1.out.drop.two.cell 13 (v := .slice A13 t.ad.length c13) rfl
 go_wp2_with (refine held_load 44 _ rfl ?_)
 refine ⟨?_⟩
 refine wpList_load_cells rfl 44 _ rfl _ rfl mc (blk_cellsR H1.out.drop.three) _ Tryz.underlying44 rfl (by rw [HM.out.2]; kernel_rfl) ?_
 go_wp2_with fail
 refine (rparts_calls m mc HM.out.1 n HI.out A13 c13 t.ad H1.out HC.out.2.2.2.2.1 HAd.out.1 HB.out.2.1 HAd.out.2).mono ?_
 rintro e w2 ⟨A21,n21,c21,rfl,h2⟩
 have H2 := Lib.hid h2
 clear h2 H1 d13
 cases hq20 : partsP (typP (rlook m) n) t.ps with
 | none =>
  have HT : Hid (typP (rlook m) (n + 1) t = none) := Lib.hid (by
   rw [HET.out]
   split
   ·unfold elsP
    rw [hq20]
   ·rfl)
  have d12 := H2.out.drop.drop.drop.cell 12 (v := .slice A12 t.ps.length c12) rfl
  have d13 := H2.out.drop.drop.drop.cell 13 (v := .slice A13 t.ad.length c13) rfl
  have d10 := H2.out.drop.drop.drop.cell 10 (v := .slice A10 t.ns.length c10) rfl
  have d11 := H2.out.drop.drop.drop.cell 11 (v := .slice A11 t.mo.length c11) rfl
  go_wp2
  go_quiet (fail)
  have H3 := Lib.hid (H2.out.drewN nq)
  clear d10 d11 d12 d13 H2
  go_wp2_with (refine held_load 38 _ rfl ?_)
  refine ⟨?_⟩
  refine wpList_load_cells rfl 38 _ rfl _ rfl [.int .i64 t.k,.string t.n,.int .i64 t.c.f0,.int .i64 t.c.f1,.int .i64 t.c.f2,.bool t.c.f3,.bool t.c.f4,.slice A7 t.c.f5.length c7,.bool t.e,.string t.fr,.slice A10 t.ns.length c10,.slice A11 t.mo.length c11,.slice A12 t.ps.length c12,.slice A13 t.ad.length c13,.slice A14 t.el.length c14] (blk_cellsR (H3.out.drop.drop.drop)) _ Tryz.underlying38 rfl (by kernel_rfl) ?_
  go_wp2_with (refine held_store _ _ _ rfl ?_)
  refine ⟨?_⟩
  refine wpList_store_off rfl rfl [.int .i64 t.k,.string t.n,.int .i64 t.c.f0,.int .i64 t.c.f1,.int .i64 t.c.f2,.bool t.c.f3,.bool t.c.f4,.slice A7 t.c.f5.length c7,.bool t.e,.string t.fr,.slice A10 t.ns.length c10,.slice A11 t.mo.length c11,.slice A12 t.ps.length c12,.slice A13 t.ad.length c13,.slice A14 t.el.length c14] rfl rfl rfl (by kernel_rfl) (by simp [Value.oneCell']) (H3.out.three) (by simp) (new := #[.int .i64 t.k,.string t.n,.int .i64 t.c.f0,.int .i64 t.c.f1,.int .i64 t.c.f2,.bool t.c.f3,.bool t.c.f4,.slice A7 t.c.f5.length c7,.bool t.e,.string t.fr,.slice A10 t.ns.length c10,.slice A11 t.mo.length c11,.slice A12 t.ps.length c12,.slice A13 t.ad.length c13,.slice A14 t.el.length c14]) rfl ?_
  intro wz hz
  have HZ := Lib.hid hz
  clear hz
  go_wp2
  refine bodyPost_ret (v := .tuple #[.agg #[.int .i64 t.k,.string t.n,.int .i64 t.c.f0,.int .i64 t.c.f1,.int .i64 t.c.f2,.bool t.c.f3,.bool t.c.f4,.slice A7 t.c.f5.length c7,.bool t.e,.string t.fr,.slice A10 t.ns.length c10,.slice A11 t.mo.length c11,.slice A12 t.ps.length c12,.slice A13 t.ad.length c13,.slice A14 t.el.length c14],.bool false]) (results_row_tmp Tryz.results21 _ _ (g + 2) _ _ (0,0) _ rfl HZ.out.block Tryz.underlying38 rfl (by kernel_rfl) rfl) rfl ⟨[.int .i64 t.k,.string t.n,.int .i64 t.c.f0,.int .i64 t.c.f1,.int .i64 t.c.f2,.bool t.c.f3,.bool t.c.f4,.slice A7 t.c.f5.length c7,.bool t.e,.string t.fr,.slice A10 t.ns.length c10,.slice A11 t.mo.length c11,.slice A12 t.ps.length c12,.slice A13 t.ad.length c13,.slice A14 t.el.length c14],rfl,by simp [Value.oneCell'],by rw [HT.out]; rfl, ?_⟩
  exact Vw.base (HZ.out.drop.drop.drop.drop.drop) fun wv hb r hr => by rw [HT.out] at hr; cases hr
 | some ps1 =>
 cases hq21 : partsP (typP (rlook m) n) t.ad with
 | none =>
  have HT : Hid (typP (rlook m) (n + 1) t = none) := Lib.hid (by
   rw [HET.out]
   split
   ·unfold elsP
    rw [hq20,hq21]
   ·rfl)
  have d12 := H2.out.drop.drop.drop.cell 12 (v := .slice A12 t.ps.length c12) rfl
  have d13 := H2.out.drop.drop.drop.cell 13 (v := .slice A13 t.ad.length c13) rfl
  have d10 := H2.out.drop.drop.drop.cell 10 (v := .slice A10 t.ns.length c10) rfl
  have d11 := H2.out.drop.drop.drop.cell 11 (v := .slice A11 t.mo.length c11) rfl
  go_wp2
  go_quiet (fail)
  have H3 := Lib.hid (H2.out.drewN nq)
  clear d10 d11 d12 d13 H2
  go_wp2_with (refine held_load 38 _ rfl ?_)
  refine ⟨?_⟩
  refine wpList_load_cells rfl 38 _ rfl _ rfl [.int .i64 t.k,.string t.n,.int .i64 t.c.f0,.int .i64 t.c.f1,.int .i64 t.c.f2,.bool t.c.f3,.bool t.c.f4,.slice A7 t.c.f5.length c7,.bool t.e,.string t.fr,.slice A10 t.ns.length c10,.slice A11 t.mo.length c11,.slice A12 t.ps.length c12,.slice A13 t.ad.length c13,.slice A14 t.el.length c14] (blk_cellsR (H3.out.drop.drop.drop)) _ Tryz.underlying38 rfl (by kernel_rfl) ?_
  go_wp2_with (refine held_store _ _ _ rfl ?_)
  refine ⟨?_⟩
  refine wpList_store_off rfl rfl [.int .i64 t.k,.string t.n,.int .i64 t.c.f0,.int .i64 t.c.f1,.int .i64 t.c.f2,.bool t.c.f3,.bool t.c.f4,.slice A7 t.c.f5.length c7,.bool t.e,.string t.fr,.slice A10 t.ns.length c10,.slice A11 t.mo.length c11,.slice A12 t.ps.length c12,.slice A13 t.ad.length c13,.slice A14 t.el.length c14] rfl rfl rfl (by kernel_rfl) (by simp [Value.oneCell']) (H3.out.three) (by simp) (new := #[.int .i64 t.k,.string t.n,.int .i64 t.c.f0,.int .i64 t.c.f1,.int .i64 t.c.f2,.bool t.c.f3,.bool t.c.f4,.slice A7 t.c.f5.length c7,.bool t.e,.string t.fr,.slice A10 t.ns.length c10,.slice A11 t.mo.length c11,.slice A12 t.ps.length c12,.slice A13 t.ad.length c13,.slice A14 t.el.length c14]) rfl ?_
  intro wz hz
  have HZ := Lib.hid hz
  clear hz
  go_wp2
  refine bodyPost_ret (v := .tuple #[.agg #[.int .i64 t.k,.string t.n,.int .i64 t.c.f0,.int .i64 t.c.f1,.int .i64 t.c.f2,.bool t.c.f3,.bool t.c.f4,.slice A7 t.c.f5.length c7,.bool t.e,.string t.fr,.slice A10 t.ns.length c10,.slice A11 t.mo.length c11,.slice A12 t.ps.length c12,.slice A13 t.ad.length c13,.slice A14 t.el.length c14],.bool false]) (results_row_tmp Tryz.results21 _ _ (g + 2) _ _ (0,0) _ rfl HZ.out.block Tryz.underlying38 rfl (by kernel_rfl) rfl) rfl ⟨[.int .i64 t.k,.string t.n,.int .i64 t.c.f0,.int .i64 t.c.f1,.int .i64 t.c.f2,.bool t.c.f3,.bool t.c.f4,.slice A7 t.c.f5.length c7,.bool t.e,.string t.fr,.slice A10 t.ns.length c10,.slice A11 t.mo.length c11,.slice A12 t.ps.length c12,.slice A13 t.ad.length c13,.slice A14 t.el.length c14],rfl,by simp [Value.oneCell'],by rw [HT.out]; rfl, ?_⟩
  exact Vw.base (HZ.out.drop.drop.drop.drop.drop) fun wv hb r hr => by rw [HT.out] at hr; cases hr
 | some ad1 =>
 have HQ20 := Lib.hid hq20
 have HQ21 := Lib.hid hq21
 clear hq20 hq21
 go_wp2
 obtain ⟨L,hL⟩ : ∃ L,L = ptNames t.ps ++ ptNames t.ad := ⟨_,rfl⟩
 obtain ⟨N,hN⟩ : ∃ N,N = t.ns ++ t.mo := ⟨_,rfl⟩
 have HLn : Hid (L = ptNames t.ps ++ ptNames t.ad ∧ N = t.ns ++ t.mo ∧ N.length = t.ns.length + t.mo.length) := Lib.hid ⟨hL,hN,by rw [hN,List.length_append]⟩
 rw [← hL, ← hN] at HET
 clear hL hN
 cases ho1 : onceB L with
 | false =>
  have HT : Hid (typP (rlook m) (n + 1) t = none) := Lib.hid (by rw [HET.out,ho1,if_neg (by simp)])
  refine wp_region_held_drew (S := fun W => (W.cell? ⟨g + 1,12,none⟩ = some (.slice A12 t.ps.length c12) ∧ W.cell? ⟨g + 1,13,none⟩ = some (.slice A13 t.ad.length c13)) ∧ W.cell? ⟨g + 1,10,none⟩ = some (.slice A10 t.ns.length c10) ∧ W.cell? ⟨g + 1,11,none⟩ = some (.slice A11 t.mo.length c11)) (by kernel_rfl) ?_ (fun hHeld => ?_)
  ·exact ⟨⟨(H2.out.drew.drop.drop.drop).cell 12 (v := .slice A12 t.ps.length c12) rfl,(H2.out.drew.drop.drop.drop).cell 13 (v := .slice A13 t.ad.length c13) rfl⟩,(H2.out.drew.drop.drop.drop).cell 10 (v := .slice A10 t.ns.length c10) rfl,(H2.out.drew.drop.drop.drop).cell 11 (v := .slice A11 t.mo.length c11) rfl⟩
  refine wpAnyH_take (i := 0) (oi := ⟨some 40,.move (.tmp 7),4,"ref.go:91",#[],none⟩) (v := ?_) rfl (by kernel_rfl) (by kernel_rfl) (by kernel_rfl) (fun _ _ _ h => h) (Or.inl ⟨by rfl, ?_⟩) (by assumption) ?_
  rotate_left 1
  ·intro w hSw
   try dsimp only at hSw
   go_simp
   all_goals with_reducible rfl
  try simp only [Act.put,List.setIfInBounds_toArray,List.set_cons_succ,List.set_cons_zero]
  refine wpAnyH_take (i := 1) (oi := ⟨some 41,.unOp .not 4 (.tmp 40),4,"ref.go:91",#[⟨0,.data⟩],none⟩) (v := ?_) rfl (by kernel_rfl) (by kernel_rfl) (by kernel_rfl) (fun _ _ _ h => h) (Or.inl ⟨by rfl, ?_⟩) (by assumption) ?_
  rotate_left 1
  ·intro w hSw
   try dsimp only at hSw
   go_simp
   all_goals with_reducible rfl
  try simp only [Act.put,List.setIfInBounds_toArray,List.set_cons_succ,List.set_cons_zero]
  refine wpAnyH_take (i := 2) (oi := ⟨some 42,.move (.tmp 41),4,"ref.go:91",#[⟨1,.data⟩],none⟩) (v := ?_) rfl (by kernel_rfl) (by kernel_rfl) (by kernel_rfl) (fun _ _ _ h => h) (Or.inl ⟨by rfl, ?_⟩) (by assumption) ?_
  rotate_left 1
  ·intro w hSw
   try dsimp only at hSw
   go_simp
   all_goals with_reducible rfl
  try simp only [Act.put,List.setIfInBounds_toArray,List.set_cons_succ,List.set_cons_zero]
  refine wpAnyH_take (i := 3) (oi := ⟨some 43,.move (.tmp 9),4,"ref.go:91",#[⟨2,.guard⟩],some (2,false)⟩) (v := ?_) rfl (by kernel_rfl) (by kernel_rfl) (by kernel_rfl) (fun _ _ _ h => h) (Or.inl ⟨by rfl, ?_⟩) (by assumption) ?_
  rotate_left 1
  ·intro w hSw
   try dsimp only at hSw
   go_simp
   all_goals with_reducible rfl
  try simp only [Act.put,List.setIfInBounds_toArray,List.set_cons_succ,List.set_cons_zero]
  refine wpAnyH_take (i := 4) (oi := ⟨some 44,.unOp .not 4 (.tmp 43),4,"ref.go:91",#[⟨3,.data⟩,⟨2,.guard⟩],some (2,false)⟩) (v := ?_) rfl (by kernel_rfl) (by kernel_rfl) (by kernel_rfl) (fun _ _ _ h => h) (Or.inl ⟨by rfl, ?_⟩) (by assumption) ?_
  rotate_left 1
  ·intro w hSw
   try dsimp only at hSw
   go_simp
   all_goals with_reducible rfl
  try simp only [Act.put,List.setIfInBounds_toArray,List.set_cons_succ,List.set_cons_zero]
  refine wpAnyH_take (i := 5) (oi := ⟨some 45,.pick (.tmp 42) (.const (.bool true)) (.tmp 44),4,"ref.go:91",#[⟨2,.data⟩,⟨4,.data⟩],none⟩) (v := ?_) rfl (by kernel_rfl) (by kernel_rfl) (by kernel_rfl) (fun _ _ _ h => h) (Or.inl ⟨by rfl, ?_⟩) (by assumption) ?_
  rotate_left 1
  ·intro w hSw
   try dsimp only at hSw
   go_simp
   all_goals with_reducible rfl
  try simp only [Act.put,List.setIfInBounds_toArray,List.set_cons_succ,List.set_cons_zero]
  refine wpAnyH_take (i := 6) (oi := ⟨some 46,.move (.tmp 45),4,"ref.go:91",#[⟨5,.data⟩,⟨2,.chain⟩],none⟩) (v := ?_) rfl (by kernel_rfl) (by kernel_rfl) (by kernel_rfl) (fun _ _ _ h => h) (Or.inl ⟨by rfl, ?_⟩) (by assumption) ?_
  rotate_left 1
  ·intro w hSw
   try dsimp only at hSw
   go_simp
   all_goals with_reducible rfl
  try simp only [Act.put,List.setIfInBounds_toArray,List.set_cons_succ,List.set_cons_zero]
  refine wpAnyH_take (i := 7) (oi := ⟨some 47,.fieldAddr 38 (.tmp 3) 7,0,"ref.go:91",#[⟨6,.guard⟩],some (6,false)⟩) (v := ?_) rfl (by kernel_rfl) (by kernel_rfl) (by kernel_rfl) (fun _ _ _ h => h) (Or.inl ⟨by rfl, ?_⟩) (by assumption) ?_
  rotate_left 1
  ·intro w hSw
   try dsimp only at hSw
   go_simp
   all_goals with_reducible rfl
  try simp only [Act.put,List.setIfInBounds_toArray,List.set_cons_succ,List.set_cons_zero]
  refine wpAnyH_take (i := 8) (oi := ⟨some 48,.load 35 (.tmp 47),35,"ref.go:91",#[⟨7,.data⟩,⟨6,.guard⟩],some (6,false)⟩) (v := ?_) rfl (by kernel_rfl) (by kernel_rfl) (by kernel_rfl) (fun _ _ _ h => h) (Or.inl ⟨by rfl, ?_⟩) (by assumption) ?_
  rotate_left 1
  ·intro w hSw
   try dsimp only at hSw
   go_simp
   all_goals with_reducible rfl
  try simp only [Act.put,List.setIfInBounds_toArray,List.set_cons_succ,List.set_cons_zero]
  refine wpAnyH_take (i := 9) (oi := ⟨some 49,.fieldAddr 38 (.tmp 3) 8,0,"ref.go:91",#[⟨6,.guard⟩],some (6,false)⟩) (v := ?_) rfl (by kernel_rfl) (by kernel_rfl) (by kernel_rfl) (fun _ _ _ h => h) (Or.inl ⟨by rfl, ?_⟩) (by assumption) ?_
  rotate_left 1
  ·intro w hSw
   try dsimp only at hSw
   go_simp
   all_goals with_reducible rfl
  try simp only [Act.put,List.setIfInBounds_toArray,List.set_cons_succ,List.set_cons_zero]
  refine wpAnyH_take (i := 10) (oi := ⟨some 50,.load 35 (.tmp 49),35,"ref.go:91",#[⟨9,.data⟩,⟨6,.guard⟩],some (6,false)⟩) (v := ?_) rfl (by kernel_rfl) (by kernel_rfl) (by kernel_rfl) (fun _ _ _ h => h) (Or.inl ⟨by rfl, ?_⟩) (by assumption) ?_
  rotate_left 1
  ·intro w hSw
   try dsimp only at hSw
   go_simp
   all_goals with_reducible rfl
  try simp only [Act.put,List.setIfInBounds_toArray,List.set_cons_succ,List.set_cons_zero]
  refine wpAnyH_ready (rs := [11]) (by kernel_rfl) (by simp) ?_
  refine AllReadyH.cons (o := ⟨some 51,.call { callee := .value (.func 47),args := #[.tmp 48,.tmp 50],argTypes := #[35,35] },34,"ref.go:91",#[⟨8,.data⟩,⟨10,.data⟩,⟨6,.chain⟩,⟨6,.guard⟩],some (6,false)⟩) rfl (fun K hK => ?_) AllReadyH.nil
  go_simp
  refine (rpnames_calls A12 c12 t.ps A13 c13 t.ad H2.out.drew HC.out.2.2.2.1 HC.out.2.2.2.2.1 HB.out.1 HB.out.2.1).mono ?_
  rintro e w5 ⟨v5,rfl,h5⟩
  rw [← HLn.out.1] at h5
  obtain ⟨A5,c5,rfl,hC5⟩ := str_C (l := L) rfl h5
  refine hK.out _ _ ?_ (fun hHeld => ?_)
  ·exact ⟨⟨(h5.drop.drop.drop.drop).cell 12 (v := .slice A12 t.ps.length c12) rfl,(h5.drop.drop.drop.drop).cell 13 (v := .slice A13 t.ad.length c13) rfl⟩,(h5.drop.drop.drop.drop).cell 10 (v := .slice A10 t.ns.length c10) rfl,(h5.drop.drop.drop.drop).cell 11 (v := .slice A11 t.mo.length c11) rfl⟩
  clear hK K
  try simp only [Act.put,List.setIfInBounds_toArray,List.set_cons_succ,List.set_cons_zero]
  refine wpAnyH_ready (rs := [12]) (by kernel_rfl) (by simp) ?_
  refine AllReadyH.cons (o := ⟨some 52,.call { callee := .value (.func 19),args := #[.tmp 51],argTypes := #[34] },4,"ref.go:91",#[⟨11,.data⟩,⟨11,.chain⟩,⟨6,.guard⟩],some (6,false)⟩) rfl (fun K hK => ?_) AllReadyH.nil
  go_simp
  refine (rtwice_at A5 c5 L h5 hC5).mono ?_
  rintro e w6 ⟨rfl,h6⟩
  rw [ho1]
  refine hK.out _ _ ?_ (fun hHeld => ?_)
  ·exact ⟨⟨(h6.drop.drop.drop.drop).cell 12 (v := .slice A12 t.ps.length c12) rfl,(h6.drop.drop.drop.drop).cell 13 (v := .slice A13 t.ad.length c13) rfl⟩,(h6.drop.drop.drop.drop).cell 10 (v := .slice A10 t.ns.length c10) rfl,(h6.drop.drop.drop.drop).cell 11 (v := .slice A11 t.mo.length c11) rfl⟩
  clear hK K
  try simp only [Act.put,List.setIfInBounds_toArray,List.set_cons_succ,List.set_cons_zero]
  refine wpAnyH_take (i := 13) (oi := ⟨some 53,.pick (.tmp 46) (.const (.bool true)) (.tmp 52),4,"ref.go:91",#[⟨6,.data⟩,⟨12,.data⟩],none⟩) (v := ?_) rfl (by kernel_rfl) (by kernel_rfl) (by kernel_rfl) (fun _ _ _ h => h) (Or.inl ⟨by rfl, ?_⟩) (by assumption) ?_
  rotate_left 1
  ·intro w hSw
   try dsimp only at hSw
   go_simp
   all_goals with_reducible rfl
  try simp only [Act.put,List.setIfInBounds_toArray,List.set_cons_succ,List.set_cons_zero]
  refine wpAnyH_take (i := 14) (oi := ⟨some 54,.move (.tmp 53),4,"ref.go:91",#[⟨13,.data⟩,⟨12,.chain⟩],none⟩) (v := ?_) rfl (by kernel_rfl) (by kernel_rfl) (by kernel_rfl) (fun _ _ _ h => h) (Or.inl ⟨by rfl, ?_⟩) (by assumption) ?_
  rotate_left 1
  ·intro w hSw
   try dsimp only at hSw
   go_simp
   all_goals with_reducible rfl
  try simp only [Act.put,List.setIfInBounds_toArray,List.set_cons_succ,List.set_cons_zero]
  refine wpAnyH_take (i := 15) (oi := ⟨some 55,.buildSlice 34 0 #[],34,"ref.go:91",#[⟨14,.guard⟩],some (14,false)⟩) (v := undef) rfl (by kernel_rfl) (by kernel_rfl) (by kernel_rfl) (fun _ _ _ h => h) (Or.inr ⟨by rfl,rfl⟩) (by assumption) ?_
  try simp only [Act.put,List.setIfInBounds_toArray,List.set_cons_succ,List.set_cons_zero]
  refine wpAnyH_take (i := 16) (oi := ⟨some 56,.fieldAddr 38 (.tmp 3) 5,0,"ref.go:91",#[⟨14,.guard⟩],some (14,false)⟩) (v := undef) rfl (by kernel_rfl) (by kernel_rfl) (by kernel_rfl) (fun _ _ _ h => h) (Or.inr ⟨by rfl,rfl⟩) (by assumption) ?_
  try simp only [Act.put,List.setIfInBounds_toArray,List.set_cons_succ,List.set_cons_zero]
  refine wpAnyH_take (i := 17) (oi := ⟨some 57,.load 34 (.tmp 56),34,"ref.go:91",#[⟨16,.data⟩,⟨14,.guard⟩],some (14,false)⟩) (v := undef) rfl (by kernel_rfl) (by kernel_rfl) (by kernel_rfl) (fun _ _ _ h => h) (Or.inr ⟨by rfl,rfl⟩) (by assumption) ?_
  try simp only [Act.put,List.setIfInBounds_toArray,List.set_cons_succ,List.set_cons_zero]
  refine wpAnyH_take (i := 18) (oi := ⟨some 58,.call { callee := .builtin .append,args := #[.tmp 55,.tmp 57],argTypes := #[34,34] },34,"ref.go:91",#[⟨15,.data⟩,⟨17,.data⟩,⟨14,.chain⟩,⟨14,.guard⟩],some (14,false)⟩) (v := undef) rfl (by kernel_rfl) (by kernel_rfl) (by kernel_rfl) (fun _ _ _ h => h) (Or.inr ⟨by rfl,rfl⟩) (by assumption) ?_
  try simp only [Act.put,List.setIfInBounds_toArray,List.set_cons_succ,List.set_cons_zero]
  refine wpAnyH_take (i := 19) (oi := ⟨some 59,.fieldAddr 38 (.tmp 3) 6,0,"ref.go:91",#[⟨14,.guard⟩],some (14,false)⟩) (v := undef) rfl (by kernel_rfl) (by kernel_rfl) (by kernel_rfl) (fun _ _ _ h => h) (Or.inr ⟨by rfl,rfl⟩) (by assumption) ?_
  try simp only [Act.put,List.setIfInBounds_toArray,List.set_cons_succ,List.set_cons_zero]
  refine wpAnyH_take (i := 20) (oi := ⟨some 60,.load 34 (.tmp 59),34,"ref.go:91",#[⟨19,.data⟩,⟨14,.guard⟩],some (14,false)⟩) (v := undef) rfl (by kernel_rfl) (by kernel_rfl) (by kernel_rfl) (fun _ _ _ h => h) (Or.inr ⟨by rfl,rfl⟩) (by assumption) ?_
  try simp only [Act.put,List.setIfInBounds_toArray,List.set_cons_succ,List.set_cons_zero]
  refine wpAnyH_take (i := 21) (oi := ⟨some 61,.call { callee := .builtin .append,args := #[.tmp 58,.tmp 60],argTypes := #[34,34] },34,"ref.go:91",#[⟨18,.data⟩,⟨20,.data⟩,⟨18,.chain⟩,⟨14,.guard⟩],some (14,false)⟩) (v := undef) rfl (by kernel_rfl) (by kernel_rfl) (by kernel_rfl) (fun _ _ _ h => h) (Or.inr ⟨by rfl,rfl⟩) (by assumption) ?_
  try simp only [Act.put,List.setIfInBounds_toArray,List.set_cons_succ,List.set_cons_zero]
  refine wpAnyH_take (i := 22) (oi := ⟨some 62,.call { callee := .value (.func 19),args := #[.tmp 61],argTypes := #[34] },4,"ref.go:91",#[⟨21,.data⟩,⟨21,.chain⟩,⟨14,.guard⟩],some (14,false)⟩) (v := undef) rfl (by kernel_rfl) (by kernel_rfl) (by kernel_rfl) (fun _ _ _ h => h) (Or.inr ⟨by rfl,rfl⟩) (by assumption) ?_
  try simp only [Act.put,List.setIfInBounds_toArray,List.set_cons_succ,List.set_cons_zero]
  refine wpAnyH_take (i := 23) (oi := ⟨some 63,.pick (.tmp 54) (.const (.bool true)) (.tmp 62),4,"ref.go:91",#[⟨14,.data⟩,⟨22,.data⟩],none⟩) (v := ?_) rfl (by kernel_rfl) (by kernel_rfl) (by kernel_rfl) (fun _ _ _ h => h) (Or.inl ⟨by rfl, ?_⟩) (by assumption) ?_
  rotate_left 1
  ·intro w hSw
   try dsimp only at hSw
   go_simp
   all_goals with_reducible rfl
  try simp only [Act.put,List.setIfInBounds_toArray,List.set_cons_succ,List.set_cons_zero]
  refine wpAnyH_done (by kernel_rfl) ?_ _
  have H3 := Lib.hid h6.drop
  clear h6 h5 hHeld hC5 H2
  go_wp2_with (refine held_load 38 _ rfl ?_)
  refine ⟨?_⟩
  refine wpList_load_cells rfl 38 _ rfl _ rfl [.int .i64 t.k,.string t.n,.int .i64 t.c.f0,.int .i64 t.c.f1,.int .i64 t.c.f2,.bool t.c.f3,.bool t.c.f4,.slice A7 t.c.f5.length c7,.bool t.e,.string t.fr,.slice A10 t.ns.length c10,.slice A11 t.mo.length c11,.slice A12 t.ps.length c12,.slice A13 t.ad.length c13,.slice A14 t.el.length c14] (blk_cellsR (H3.out.drop.drop.drop)) _ Tryz.underlying38 rfl (by kernel_rfl) ?_
  go_wp2_with (refine held_store _ _ _ rfl ?_)
  refine ⟨?_⟩
  refine wpList_store_off rfl rfl [.int .i64 t.k,.string t.n,.int .i64 t.c.f0,.int .i64 t.c.f1,.int .i64 t.c.f2,.bool t.c.f3,.bool t.c.f4,.slice A7 t.c.f5.length c7,.bool t.e,.string t.fr,.slice A10 t.ns.length c10,.slice A11 t.mo.length c11,.slice A12 t.ps.length c12,.slice A13 t.ad.length c13,.slice A14 t.el.length c14] rfl rfl rfl (by kernel_rfl) (by simp [Value.oneCell']) (H3.out.three) (by simp) (new := #[.int .i64 t.k,.string t.n,.int .i64 t.c.f0,.int .i64 t.c.f1,.int .i64 t.c.f2,.bool t.c.f3,.bool t.c.f4,.slice A7 t.c.f5.length c7,.bool t.e,.string t.fr,.slice A10 t.ns.length c10,.slice A11 t.mo.length c11,.slice A12 t.ps.length c12,.slice A13 t.ad.length c13,.slice A14 t.el.length c14]) rfl ?_
  intro wz hz
  have HZ := Lib.hid hz
  clear hz
  go_wp2
  refine bodyPost_ret (v := .tuple #[.agg #[.int .i64 t.k,.string t.n,.int .i64 t.c.f0,.int .i64 t.c.f1,.int .i64 t.c.f2,.bool t.c.f3,.bool t.c.f4,.slice A7 t.c.f5.length c7,.bool t.e,.string t.fr,.slice A10 t.ns.length c10,.slice A11 t.mo.length c11,.slice A12 t.ps.length c12,.slice A13 t.ad.length c13,.slice A14 t.el.length c14],.bool false]) (results_row_tmp Tryz.results21 _ _ (g + 2) _ _ (0,0) _ rfl HZ.out.block Tryz.underlying38 rfl (by kernel_rfl) rfl) rfl ⟨[.int .i64 t.k,.string t.n,.int .i64 t.c.f0,.int .i64 t.c.f1,.int .i64 t.c.f2,.bool t.c.f3,.bool t.c.f4,.slice A7 t.c.f5.length c7,.bool t.e,.string t.fr,.slice A10 t.ns.length c10,.slice A11 t.mo.length c11,.slice A12 t.ps.length c12,.slice A13 t.ad.length c13,.slice A14 t.el.length c14],rfl,by simp [Value.oneCell'],by rw [HT.out]; rfl, ?_⟩
  exact Vw.base (HZ.out.drop.drop.drop.drop.drop) fun wv hb r hr => by rw [HT.out] at hr; cases hr
 | true =>
 cases ho2 : onceB N with
 | false =>
  have HT : Hid (typP (rlook m) (n + 1) t = none) := Lib.hid (by rw [HET.out,ho2,if_neg (by simp)])
  refine wp_region_held_drew (S := fun W => (W.cell? ⟨g + 1,12,none⟩ = some (.slice A12 t.ps.length c12) ∧ W.cell? ⟨g + 1,13,none⟩ = some (.slice A13 t.ad.length c13)) ∧ W.cell? ⟨g + 1,10,none⟩ = some (.slice A10 t.ns.length c10) ∧ W.cell? ⟨g + 1,11,none⟩ = some (.slice A11 t.mo.length c11)) (by kernel_rfl) ?_ (fun hHeld => ?_)
  ·exact ⟨⟨(H2.out.drew.drop.drop.drop).cell 12 (v := .slice A12 t.ps.length c12) rfl,(H2.out.drew.drop.drop.drop).cell 13 (v := .slice A13 t.ad.length c13) rfl⟩,(H2.out.drew.drop.drop.drop).cell 10 (v := .slice A10 t.ns.length c10) rfl,(H2.out.drew.drop.drop.drop).cell 11 (v := .slice A11 t.mo.length c11) rfl⟩
  refine wpAnyH_take (i := 0) (oi := ⟨some 40,.move (.tmp 7),4,"ref.go:91",#[],none⟩) (v := ?_) rfl (by kernel_rfl) (by kernel_rfl) (by kernel_rfl) (fun _ _ _ h => h) (Or.inl ⟨by rfl, ?_⟩) (by assumption) ?_
  rotate_left 1
  ·intro w hSw
   try dsimp only at hSw
   go_simp
   all_goals with_reducible rfl
  try simp only [Act.put,List.setIfInBounds_toArray,List.set_cons_succ,List.set_cons_zero]
  refine wpAnyH_take (i := 1) (oi := ⟨some 41,.unOp .not 4 (.tmp 40),4,"ref.go:91",#[⟨0,.data⟩],none⟩) (v := ?_) rfl (by kernel_rfl) (by kernel_rfl) (by kernel_rfl) (fun _ _ _ h => h) (Or.inl ⟨by rfl, ?_⟩) (by assumption) ?_
  rotate_left 1
  ·intro w hSw
   try dsimp only at hSw
   go_simp
   all_goals with_reducible rfl
  try simp only [Act.put,List.setIfInBounds_toArray,List.set_cons_succ,List.set_cons_zero]
  refine wpAnyH_take (i := 2) (oi := ⟨some 42,.move (.tmp 41),4,"ref.go:91",#[⟨1,.data⟩],none⟩) (v := ?_) rfl (by kernel_rfl) (by kernel_rfl) (by kernel_rfl) (fun _ _ _ h => h) (Or.inl ⟨by rfl, ?_⟩) (by assumption) ?_
  rotate_left 1
  ·intro w hSw
   try dsimp only at hSw
   go_simp
   all_goals with_reducible rfl
  try simp only [Act.put,List.setIfInBounds_toArray,List.set_cons_succ,List.set_cons_zero]
  refine wpAnyH_take (i := 3) (oi := ⟨some 43,.move (.tmp 9),4,"ref.go:91",#[⟨2,.guard⟩],some (2,false)⟩) (v := ?_) rfl (by kernel_rfl) (by kernel_rfl) (by kernel_rfl) (fun _ _ _ h => h) (Or.inl ⟨by rfl, ?_⟩) (by assumption) ?_
  rotate_left 1
  ·intro w hSw
   try dsimp only at hSw
   go_simp
   all_goals with_reducible rfl
  try simp only [Act.put,List.setIfInBounds_toArray,List.set_cons_succ,List.set_cons_zero]
  refine wpAnyH_take (i := 4) (oi := ⟨some 44,.unOp .not 4 (.tmp 43),4,"ref.go:91",#[⟨3,.data⟩,⟨2,.guard⟩],some (2,false)⟩) (v := ?_) rfl (by kernel_rfl) (by kernel_rfl) (by kernel_rfl) (fun _ _ _ h => h) (Or.inl ⟨by rfl, ?_⟩) (by assumption) ?_
  rotate_left 1
  ·intro w hSw
   try dsimp only at hSw
   go_simp
   all_goals with_reducible rfl
  try simp only [Act.put,List.setIfInBounds_toArray,List.set_cons_succ,List.set_cons_zero]
  refine wpAnyH_take (i := 5) (oi := ⟨some 45,.pick (.tmp 42) (.const (.bool true)) (.tmp 44),4,"ref.go:91",#[⟨2,.data⟩,⟨4,.data⟩],none⟩) (v := ?_) rfl (by kernel_rfl) (by kernel_rfl) (by kernel_rfl) (fun _ _ _ h => h) (Or.inl ⟨by rfl, ?_⟩) (by assumption) ?_
  rotate_left 1
  ·intro w hSw
   try dsimp only at hSw
   go_simp
   all_goals with_reducible rfl
  try simp only [Act.put,List.setIfInBounds_toArray,List.set_cons_succ,List.set_cons_zero]
  refine wpAnyH_take (i := 6) (oi := ⟨some 46,.move (.tmp 45),4,"ref.go:91",#[⟨5,.data⟩,⟨2,.chain⟩],none⟩) (v := ?_) rfl (by kernel_rfl) (by kernel_rfl) (by kernel_rfl) (fun _ _ _ h => h) (Or.inl ⟨by rfl, ?_⟩) (by assumption) ?_
  rotate_left 1
  ·intro w hSw
   try dsimp only at hSw
   go_simp
   all_goals with_reducible rfl
  try simp only [Act.put,List.setIfInBounds_toArray,List.set_cons_succ,List.set_cons_zero]
  refine wpAnyH_take (i := 7) (oi := ⟨some 47,.fieldAddr 38 (.tmp 3) 7,0,"ref.go:91",#[⟨6,.guard⟩],some (6,false)⟩) (v := ?_) rfl (by kernel_rfl) (by kernel_rfl) (by kernel_rfl) (fun _ _ _ h => h) (Or.inl ⟨by rfl, ?_⟩) (by assumption) ?_
  rotate_left 1
  ·intro w hSw
   try dsimp only at hSw
   go_simp
   all_goals with_reducible rfl
  try simp only [Act.put,List.setIfInBounds_toArray,List.set_cons_succ,List.set_cons_zero]
  refine wpAnyH_take (i := 8) (oi := ⟨some 48,.load 35 (.tmp 47),35,"ref.go:91",#[⟨7,.data⟩,⟨6,.guard⟩],some (6,false)⟩) (v := ?_) rfl (by kernel_rfl) (by kernel_rfl) (by kernel_rfl) (fun _ _ _ h => h) (Or.inl ⟨by rfl, ?_⟩) (by assumption) ?_
  rotate_left 1
  ·intro w hSw
   try dsimp only at hSw
   go_simp
   all_goals with_reducible rfl
  try simp only [Act.put,List.setIfInBounds_toArray,List.set_cons_succ,List.set_cons_zero]
  refine wpAnyH_take (i := 9) (oi := ⟨some 49,.fieldAddr 38 (.tmp 3) 8,0,"ref.go:91",#[⟨6,.guard⟩],some (6,false)⟩) (v := ?_) rfl (by kernel_rfl) (by kernel_rfl) (by kernel_rfl) (fun _ _ _ h => h) (Or.inl ⟨by rfl, ?_⟩) (by assumption) ?_
  rotate_left 1
  ·intro w hSw
   try dsimp only at hSw
   go_simp
   all_goals with_reducible rfl
  try simp only [Act.put,List.setIfInBounds_toArray,List.set_cons_succ,List.set_cons_zero]
  refine wpAnyH_take (i := 10) (oi := ⟨some 50,.load 35 (.tmp 49),35,"ref.go:91",#[⟨9,.data⟩,⟨6,.guard⟩],some (6,false)⟩) (v := ?_) rfl (by kernel_rfl) (by kernel_rfl) (by kernel_rfl) (fun _ _ _ h => h) (Or.inl ⟨by rfl, ?_⟩) (by assumption) ?_
  rotate_left 1
  ·intro w hSw
   try dsimp only at hSw
   go_simp
   all_goals with_reducible rfl
  try simp only [Act.put,List.setIfInBounds_toArray,List.set_cons_succ,List.set_cons_zero]
  refine wpAnyH_ready (rs := [11]) (by kernel_rfl) (by simp) ?_
  refine AllReadyH.cons (o := ⟨some 51,.call { callee := .value (.func 47),args := #[.tmp 48,.tmp 50],argTypes := #[35,35] },34,"ref.go:91",#[⟨8,.data⟩,⟨10,.data⟩,⟨6,.chain⟩,⟨6,.guard⟩],some (6,false)⟩) rfl (fun K hK => ?_) AllReadyH.nil
  go_simp
  refine (rpnames_calls A12 c12 t.ps A13 c13 t.ad H2.out.drew HC.out.2.2.2.1 HC.out.2.2.2.2.1 HB.out.1 HB.out.2.1).mono ?_
  rintro e w5 ⟨v5,rfl,h5⟩
  rw [← HLn.out.1] at h5
  obtain ⟨A5,c5,rfl,hC5⟩ := str_C (l := L) rfl h5
  refine hK.out _ _ ?_ (fun hHeld => ?_)
  ·exact ⟨⟨(h5.drop.drop.drop.drop).cell 12 (v := .slice A12 t.ps.length c12) rfl,(h5.drop.drop.drop.drop).cell 13 (v := .slice A13 t.ad.length c13) rfl⟩,(h5.drop.drop.drop.drop).cell 10 (v := .slice A10 t.ns.length c10) rfl,(h5.drop.drop.drop.drop).cell 11 (v := .slice A11 t.mo.length c11) rfl⟩
  clear hK K
  try simp only [Act.put,List.setIfInBounds_toArray,List.set_cons_succ,List.set_cons_zero]
  refine wpAnyH_ready (rs := [12]) (by kernel_rfl) (by simp) ?_
  refine AllReadyH.cons (o := ⟨some 52,.call { callee := .value (.func 19),args := #[.tmp 51],argTypes := #[34] },4,"ref.go:91",#[⟨11,.data⟩,⟨11,.chain⟩,⟨6,.guard⟩],some (6,false)⟩) rfl (fun K hK => ?_) AllReadyH.nil
  go_simp
  refine (rtwice_at A5 c5 L h5 hC5).mono ?_
  rintro e w6 ⟨rfl,h6⟩
  rw [ho1]
  refine hK.out _ _ ?_ (fun hHeld => ?_)
  ·exact ⟨⟨(h6.drop.drop.drop.drop).cell 12 (v := .slice A12 t.ps.length c12) rfl,(h6.drop.drop.drop.drop).cell 13 (v := .slice A13 t.ad.length c13) rfl⟩,(h6.drop.drop.drop.drop).cell 10 (v := .slice A10 t.ns.length c10) rfl,(h6.drop.drop.drop.drop).cell 11 (v := .slice A11 t.mo.length c11) rfl⟩
  clear hK K
  try simp only [Act.put,List.setIfInBounds_toArray,List.set_cons_succ,List.set_cons_zero]
  refine wpAnyH_take (i := 13) (oi := ⟨some 53,.pick (.tmp 46) (.const (.bool true)) (.tmp 52),4,"ref.go:91",#[⟨6,.data⟩,⟨12,.data⟩],none⟩) (v := ?_) rfl (by kernel_rfl) (by kernel_rfl) (by kernel_rfl) (fun _ _ _ h => h) (Or.inl ⟨by rfl, ?_⟩) (by assumption) ?_
  rotate_left 1
  ·intro w hSw
   try dsimp only at hSw
   go_simp
   all_goals with_reducible rfl
  try simp only [Act.put,List.setIfInBounds_toArray,List.set_cons_succ,List.set_cons_zero]
  refine wpAnyH_take (i := 14) (oi := ⟨some 54,.move (.tmp 53),4,"ref.go:91",#[⟨13,.data⟩,⟨12,.chain⟩],none⟩) (v := ?_) rfl (by kernel_rfl) (by kernel_rfl) (by kernel_rfl) (fun _ _ _ h => h) (Or.inl ⟨by rfl, ?_⟩) (by assumption) ?_
  rotate_left 1
  ·intro w hSw
   try dsimp only at hSw
   go_simp
   all_goals with_reducible rfl
  try simp only [Act.put,List.setIfInBounds_toArray,List.set_cons_succ,List.set_cons_zero]
  refine wpAnyH_take (i := 16) (oi := ⟨some 56,.fieldAddr 38 (.tmp 3) 5,0,"ref.go:91",#[⟨14,.guard⟩],some (14,false)⟩) (v := ?_) rfl (by kernel_rfl) (by kernel_rfl) (by kernel_rfl) (fun _ _ _ h => h) (Or.inl ⟨by rfl, ?_⟩) (by assumption) ?_
  rotate_left 1
  ·intro w hSw
   try dsimp only at hSw
   go_simp
   all_goals with_reducible rfl
  try simp only [Act.put,List.setIfInBounds_toArray,List.set_cons_succ,List.set_cons_zero]
  refine wpAnyH_take (i := 17) (oi := ⟨some 57,.load 34 (.tmp 56),34,"ref.go:91",#[⟨16,.data⟩,⟨14,.guard⟩],some (14,false)⟩) (v := ?_) rfl (by kernel_rfl) (by kernel_rfl) (by kernel_rfl) (fun _ _ _ h => h) (Or.inl ⟨by rfl, ?_⟩) (by assumption) ?_
  rotate_left 1
  ·intro w hSw
   try dsimp only at hSw
   go_simp
   all_goals with_reducible rfl
  try simp only [Act.put,List.setIfInBounds_toArray,List.set_cons_succ,List.set_cons_zero]
  refine wpAnyH_take (i := 19) (oi := ⟨some 59,.fieldAddr 38 (.tmp 3) 6,0,"ref.go:91",#[⟨14,.guard⟩],some (14,false)⟩) (v := ?_) rfl (by kernel_rfl) (by kernel_rfl) (by kernel_rfl) (fun _ _ _ h => h) (Or.inl ⟨by rfl, ?_⟩) (by assumption) ?_
  rotate_left 1
  ·intro w hSw
   try dsimp only at hSw
   go_simp
   all_goals with_reducible rfl
  try simp only [Act.put,List.setIfInBounds_toArray,List.set_cons_succ,List.set_cons_zero]
  refine wpAnyH_take (i := 20) (oi := ⟨some 60,.load 34 (.tmp 59),34,"ref.go:91",#[⟨19,.data⟩,⟨14,.guard⟩],some (14,false)⟩) (v := ?_) rfl (by kernel_rfl) (by kernel_rfl) (by kernel_rfl) (fun _ _ _ h => h) (Or.inl ⟨by rfl, ?_⟩) (by assumption) ?_
  rotate_left 1
  ·intro w hSw
   try dsimp only at hSw
   go_simp
   all_goals with_reducible rfl
  try simp only [Act.put,List.setIfInBounds_toArray,List.set_cons_succ,List.set_cons_zero]
  refine wpAnyH_ready (rs := [15]) (by kernel_rfl) (by simp) ?_
  refine AllReadyH.cons (o := ⟨some 55,.buildSlice 34 0 #[],34,"ref.go:91",#[⟨14,.guard⟩],some (14,false)⟩) rfl (fun K hK => ?_) AllReadyH.nil
  go_simp
  have h7 := made0 (e := 9) (size := 1) (n := w6.heap.size) h6 rfl
  refine hK.out _ _ ?_ (fun hHeld => ?_)
  ·exact ⟨⟨(h7.drop.drop.drop.drop.drop).cell 12 (v := .slice A12 t.ps.length c12) rfl,(h7.drop.drop.drop.drop.drop).cell 13 (v := .slice A13 t.ad.length c13) rfl⟩,(h7.drop.drop.drop.drop.drop).cell 10 (v := .slice A10 t.ns.length c10) rfl,(h7.drop.drop.drop.drop.drop).cell 11 (v := .slice A11 t.mo.length c11) rfl⟩
  clear hK K
  try simp only [Act.put,List.setIfInBounds_toArray,List.set_cons_succ,List.set_cons_zero]
  refine wpAnyH_ready (rs := [18]) (by kernel_rfl) (by simp) ?_
  refine AllReadyH.cons (o := ⟨some 58,.call { callee := .builtin .append,args := #[.tmp 55,.tmp 57],argTypes := #[34,34] },34,"ref.go:91",#[⟨15,.data⟩,⟨17,.data⟩,⟨14,.chain⟩,⟨14,.guard⟩],some (14,false)⟩) rfl (fun K hK => ?_) AllReadyH.nil
  refine step_appR (by rfl) _ _ Tryz.underlying34 info_strs rfl (by decide) (by rfl) _ 0 [] (by rfl) h7 (by rfl) (by simp [strV]) (fun j u hu => by
   obtain ⟨ad',e,hc⟩ := str_rows HC.out.2.1 j u hu
   exact ⟨ad',e,pw_cell_below h7.below hc⟩) (str_one t.ns) (by have := HB.out.2.2.1; simp only [maxLen]; omega) (by have := HB.out.2.2.1; omega) ?_
  intro v8 w8 h8
  refine hK.out _ _ ?_ (fun hHeld => ?_)
  ·exact ⟨⟨(h8.drop.drop.drop.drop.drop).cell 12 (v := .slice A12 t.ps.length c12) rfl,(h8.drop.drop.drop.drop.drop).cell 13 (v := .slice A13 t.ad.length c13) rfl⟩,(h8.drop.drop.drop.drop.drop).cell 10 (v := .slice A10 t.ns.length c10) rfl,(h8.drop.drop.drop.drop.drop).cell 11 (v := .slice A11 t.mo.length c11) rfl⟩
  clear hK K
  try simp only [Act.put,List.setIfInBounds_toArray,List.set_cons_succ,List.set_cons_zero]
  refine wpAnyH_ready (rs := [21]) (by kernel_rfl) (by simp) ?_
  refine AllReadyH.cons (o := ⟨some 61,.call { callee := .builtin .append,args := #[.tmp 58,.tmp 60],argTypes := #[34,34] },34,"ref.go:91",#[⟨18,.data⟩,⟨20,.data⟩,⟨18,.chain⟩,⟨14,.guard⟩],some (14,false)⟩) rfl (fun K hK => ?_) AllReadyH.nil
  refine step_appR (by rfl) _ _ Tryz.underlying34 info_strs rfl (by decide) (by rfl) _ (0 + t.ns.length) ([] ++ strV t.ns) (by rfl) h8 (by rfl) (by simp [strV]) (fun j u hu => by
   obtain ⟨ad',e,hc⟩ := str_rows HC.out.2.2.1 j u hu
   exact ⟨ad',e,pw_cell_below h8.below hc⟩) (str_one t.mo) (by have := HB.out.2.2.1; have := HB.out.2.2.2; simp only [maxLen]; omega) (by have := HB.out.2.2.1; have := HB.out.2.2.2; omega) ?_
  intro v9 w9 h9
  rw [List.nil_append,strV_app, ← HLn.out.2.1] at h9
  obtain ⟨A6,c6,rfl,hC6⟩ := str_C (l := N) (by rw [HLn.out.2.2]; omega) h9
  refine hK.out _ _ ?_ (fun hHeld => ?_)
  ·exact ⟨⟨(h9.drop.drop.drop.drop.drop).cell 12 (v := .slice A12 t.ps.length c12) rfl,(h9.drop.drop.drop.drop.drop).cell 13 (v := .slice A13 t.ad.length c13) rfl⟩,(h9.drop.drop.drop.drop.drop).cell 10 (v := .slice A10 t.ns.length c10) rfl,(h9.drop.drop.drop.drop.drop).cell 11 (v := .slice A11 t.mo.length c11) rfl⟩
  clear hK K
  try simp only [Act.put,List.setIfInBounds_toArray,List.set_cons_succ,List.set_cons_zero]
  refine wpAnyH_ready (rs := [22]) (by kernel_rfl) (by simp) ?_
  refine AllReadyH.cons (o := ⟨some 62,.call { callee := .value (.func 19),args := #[.tmp 61],argTypes := #[34] },4,"ref.go:91",#[⟨21,.data⟩,⟨21,.chain⟩,⟨14,.guard⟩],some (14,false)⟩) rfl (fun K hK => ?_) AllReadyH.nil
  go_simp
  refine (rtwice_at A6 c6 N h9 hC6).mono ?_
  rintro e w10 ⟨rfl,h10⟩
  rw [ho2]
  refine hK.out _ _ ?_ (fun hHeld => ?_)
  ·exact ⟨⟨(h10.drop.drop.drop.drop.drop).cell 12 (v := .slice A12 t.ps.length c12) rfl,(h10.drop.drop.drop.drop.drop).cell 13 (v := .slice A13 t.ad.length c13) rfl⟩,(h10.drop.drop.drop.drop.drop).cell 10 (v := .slice A10 t.ns.length c10) rfl,(h10.drop.drop.drop.drop.drop).cell 11 (v := .slice A11 t.mo.length c11) rfl⟩
  clear hK K
  try simp only [Act.put,List.setIfInBounds_toArray,List.set_cons_succ,List.set_cons_zero]
  refine wpAnyH_take (i := 23) (oi := ⟨some 63,.pick (.tmp 54) (.const (.bool true)) (.tmp 62),4,"ref.go:91",#[⟨14,.data⟩,⟨22,.data⟩],none⟩) (v := ?_) rfl (by kernel_rfl) (by kernel_rfl) (by kernel_rfl) (fun _ _ _ h => h) (Or.inl ⟨by rfl, ?_⟩) (by assumption) ?_
  rotate_left 1
  ·intro w hSw
   try dsimp only at hSw
   go_simp
   all_goals with_reducible rfl
  try simp only [Act.put,List.setIfInBounds_toArray,List.set_cons_succ,List.set_cons_zero]
  refine wpAnyH_done (by kernel_rfl) ?_ _
  have H3 := Lib.hid h10.drop.drop
  clear h6 h5 h7 h8 h9 h10 hHeld hC5 hC6 H2
  go_wp2_with (refine held_load 38 _ rfl ?_)
  refine ⟨?_⟩
  refine wpList_load_cells rfl 38 _ rfl _ rfl [.int .i64 t.k,.string t.n,.int .i64 t.c.f0,.int .i64 t.c.f1,.int .i64 t.c.f2,.bool t.c.f3,.bool t.c.f4,.slice A7 t.c.f5.length c7,.bool t.e,.string t.fr,.slice A10 t.ns.length c10,.slice A11 t.mo.length c11,.slice A12 t.ps.length c12,.slice A13 t.ad.length c13,.slice A14 t.el.length c14] (blk_cellsR (H3.out.drop.drop.drop)) _ Tryz.underlying38 rfl (by kernel_rfl) ?_
  go_wp2_with (refine held_store _ _ _ rfl ?_)
  refine ⟨?_⟩
  refine wpList_store_off rfl rfl [.int .i64 t.k,.string t.n,.int .i64 t.c.f0,.int .i64 t.c.f1,.int .i64 t.c.f2,.bool t.c.f3,.bool t.c.f4,.slice A7 t.c.f5.length c7,.bool t.e,.string t.fr,.slice A10 t.ns.length c10,.slice A11 t.mo.length c11,.slice A12 t.ps.length c12,.slice A13 t.ad.length c13,.slice A14 t.el.length c14] rfl rfl rfl (by kernel_rfl) (by simp [Value.oneCell']) (H3.out.three) (by simp) (new := #[.int .i64 t.k,.string t.n,.int .i64 t.c.f0,.int .i64 t.c.f1,.int .i64 t.c.f2,.bool t.c.f3,.bool t.c.f4,.slice A7 t.c.f5.length c7,.bool t.e,.string t.fr,.slice A10 t.ns.length c10,.slice A11 t.mo.length c11,.slice A12 t.ps.length c12,.slice A13 t.ad.length c13,.slice A14 t.el.length c14]) rfl ?_
  intro wz hz
  have HZ := Lib.hid hz
  clear hz
  go_wp2
  refine bodyPost_ret (v := .tuple #[.agg #[.int .i64 t.k,.string t.n,.int .i64 t.c.f0,.int .i64 t.c.f1,.int .i64 t.c.f2,.bool t.c.f3,.bool t.c.f4,.slice A7 t.c.f5.length c7,.bool t.e,.string t.fr,.slice A10 t.ns.length c10,.slice A11 t.mo.length c11,.slice A12 t.ps.length c12,.slice A13 t.ad.length c13,.slice A14 t.el.length c14],.bool false]) (results_row_tmp Tryz.results21 _ _ (g + 2) _ _ (0,0) _ rfl HZ.out.block Tryz.underlying38 rfl (by kernel_rfl) rfl) rfl ⟨[.int .i64 t.k,.string t.n,.int .i64 t.c.f0,.int .i64 t.c.f1,.int .i64 t.c.f2,.bool t.c.f3,.bool t.c.f4,.slice A7 t.c.f5.length c7,.bool t.e,.string t.fr,.slice A10 t.ns.length c10,.slice A11 t.mo.length c11,.slice A12 t.ps.length c12,.slice A13 t.ad.length c13,.slice A14 t.el.length c14],rfl,by simp [Value.oneCell'],by rw [HT.out]; rfl, ?_⟩
  exact Vw.base (HZ.out.drop.drop.drop.drop.drop) fun wv hb r hr => by rw [HT.out] at hr; cases hr
 | true =>
  have HT0 : Hid (typP (rlook m) (n + 1) t = elsP (typP (rlook m) n) t) := Lib.hid (by rw [HET.out,ho1,ho2,if_pos ⟨rfl,rfl⟩])
  refine wp_region_held_drew (S := fun W => (W.cell? ⟨g + 1,12,none⟩ = some (.slice A12 t.ps.length c12) ∧ W.cell? ⟨g + 1,13,none⟩ = some (.slice A13 t.ad.length c13)) ∧ W.cell? ⟨g + 1,10,none⟩ = some (.slice A10 t.ns.length c10) ∧ W.cell? ⟨g + 1,11,none⟩ = some (.slice A11 t.mo.length c11)) (by kernel_rfl) ?_ (fun hHeld => ?_)
  ·exact ⟨⟨(H2.out.drew.drop.drop.drop).cell 12 (v := .slice A12 t.ps.length c12) rfl,(H2.out.drew.drop.drop.drop).cell 13 (v := .slice A13 t.ad.length c13) rfl⟩,(H2.out.drew.drop.drop.drop).cell 10 (v := .slice A10 t.ns.length c10) rfl,(H2.out.drew.drop.drop.drop).cell 11 (v := .slice A11 t.mo.length c11) rfl⟩
  refine wpAnyH_take (i := 0) (oi := ⟨some 40,.move (.tmp 7),4,"ref.go:91",#[],none⟩) (v := ?_) rfl (by kernel_rfl) (by kernel_rfl) (by kernel_rfl) (fun _ _ _ h => h) (Or.inl ⟨by rfl, ?_⟩) (by assumption) ?_
  rotate_left 1
  ·intro w hSw
   try dsimp only at hSw
   go_simp
   all_goals with_reducible rfl
  try simp only [Act.put,List.setIfInBounds_toArray,List.set_cons_succ,List.set_cons_zero]
  refine wpAnyH_take (i := 1) (oi := ⟨some 41,.unOp .not 4 (.tmp 40),4,"ref.go:91",#[⟨0,.data⟩],none⟩) (v := ?_) rfl (by kernel_rfl) (by kernel_rfl) (by kernel_rfl) (fun _ _ _ h => h) (Or.inl ⟨by rfl, ?_⟩) (by assumption) ?_
  rotate_left 1
  ·intro w hSw
   try dsimp only at hSw
   go_simp
   all_goals with_reducible rfl
  try simp only [Act.put,List.setIfInBounds_toArray,List.set_cons_succ,List.set_cons_zero]
  refine wpAnyH_take (i := 2) (oi := ⟨some 42,.move (.tmp 41),4,"ref.go:91",#[⟨1,.data⟩],none⟩) (v := ?_) rfl (by kernel_rfl) (by kernel_rfl) (by kernel_rfl) (fun _ _ _ h => h) (Or.inl ⟨by rfl, ?_⟩) (by assumption) ?_
  rotate_left 1
  ·intro w hSw
   try dsimp only at hSw
   go_simp
   all_goals with_reducible rfl
  try simp only [Act.put,List.setIfInBounds_toArray,List.set_cons_succ,List.set_cons_zero]
  refine wpAnyH_take (i := 3) (oi := ⟨some 43,.move (.tmp 9),4,"ref.go:91",#[⟨2,.guard⟩],some (2,false)⟩) (v := ?_) rfl (by kernel_rfl) (by kernel_rfl) (by kernel_rfl) (fun _ _ _ h => h) (Or.inl ⟨by rfl, ?_⟩) (by assumption) ?_
  rotate_left 1
  ·intro w hSw
   try dsimp only at hSw
   go_simp
   all_goals with_reducible rfl
  try simp only [Act.put,List.setIfInBounds_toArray,List.set_cons_succ,List.set_cons_zero]
  refine wpAnyH_take (i := 4) (oi := ⟨some 44,.unOp .not 4 (.tmp 43),4,"ref.go:91",#[⟨3,.data⟩,⟨2,.guard⟩],some (2,false)⟩) (v := ?_) rfl (by kernel_rfl) (by kernel_rfl) (by kernel_rfl) (fun _ _ _ h => h) (Or.inl ⟨by rfl, ?_⟩) (by assumption) ?_
  rotate_left 1
  ·intro w hSw
   try dsimp only at hSw
   go_simp
   all_goals with_reducible rfl
  try simp only [Act.put,List.setIfInBounds_toArray,List.set_cons_succ,List.set_cons_zero]
  refine wpAnyH_take (i := 5) (oi := ⟨some 45,.pick (.tmp 42) (.const (.bool true)) (.tmp 44),4,"ref.go:91",#[⟨2,.data⟩,⟨4,.data⟩],none⟩) (v := ?_) rfl (by kernel_rfl) (by kernel_rfl) (by kernel_rfl) (fun _ _ _ h => h) (Or.inl ⟨by rfl, ?_⟩) (by assumption) ?_
  rotate_left 1
  ·intro w hSw
   try dsimp only at hSw
   go_simp
   all_goals with_reducible rfl
  try simp only [Act.put,List.setIfInBounds_toArray,List.set_cons_succ,List.set_cons_zero]
  refine wpAnyH_take (i := 6) (oi := ⟨some 46,.move (.tmp 45),4,"ref.go:91",#[⟨5,.data⟩,⟨2,.chain⟩],none⟩) (v := ?_) rfl (by kernel_rfl) (by kernel_rfl) (by kernel_rfl) (fun _ _ _ h => h) (Or.inl ⟨by rfl, ?_⟩) (by assumption) ?_
  rotate_left 1
  ·intro w hSw
   try dsimp only at hSw
   go_simp
   all_goals with_reducible rfl
  try simp only [Act.put,List.setIfInBounds_toArray,List.set_cons_succ,List.set_cons_zero]
  refine wpAnyH_take (i := 7) (oi := ⟨some 47,.fieldAddr 38 (.tmp 3) 7,0,"ref.go:91",#[⟨6,.guard⟩],some (6,false)⟩) (v := ?_) rfl (by kernel_rfl) (by kernel_rfl) (by kernel_rfl) (fun _ _ _ h => h) (Or.inl ⟨by rfl, ?_⟩) (by assumption) ?_
  rotate_left 1
  ·intro w hSw
   try dsimp only at hSw
   go_simp
   all_goals with_reducible rfl
  try simp only [Act.put,List.setIfInBounds_toArray,List.set_cons_succ,List.set_cons_zero]
  refine wpAnyH_take (i := 8) (oi := ⟨some 48,.load 35 (.tmp 47),35,"ref.go:91",#[⟨7,.data⟩,⟨6,.guard⟩],some (6,false)⟩) (v := ?_) rfl (by kernel_rfl) (by kernel_rfl) (by kernel_rfl) (fun _ _ _ h => h) (Or.inl ⟨by rfl, ?_⟩) (by assumption) ?_
  rotate_left 1
  ·intro w hSw
   try dsimp only at hSw
   go_simp
   all_goals with_reducible rfl
  try simp only [Act.put,List.setIfInBounds_toArray,List.set_cons_succ,List.set_cons_zero]
  refine wpAnyH_take (i := 9) (oi := ⟨some 49,.fieldAddr 38 (.tmp 3) 8,0,"ref.go:91",#[⟨6,.guard⟩],some (6,false)⟩) (v := ?_) rfl (by kernel_rfl) (by kernel_rfl) (by kernel_rfl) (fun _ _ _ h => h) (Or.inl ⟨by rfl, ?_⟩) (by assumption) ?_
  rotate_left 1
  ·intro w hSw
   try dsimp only at hSw
   go_simp
   all_goals with_reducible rfl
  try simp only [Act.put,List.setIfInBounds_toArray,List.set_cons_succ,List.set_cons_zero]
  refine wpAnyH_take (i := 10) (oi := ⟨some 50,.load 35 (.tmp 49),35,"ref.go:91",#[⟨9,.data⟩,⟨6,.guard⟩],some (6,false)⟩) (v := ?_) rfl (by kernel_rfl) (by kernel_rfl) (by kernel_rfl) (fun _ _ _ h => h) (Or.inl ⟨by rfl, ?_⟩) (by assumption) ?_
  rotate_left 1
  ·intro w hSw
   try dsimp only at hSw
   go_simp
   all_goals with_reducible rfl
  try simp only [Act.put,List.setIfInBounds_toArray,List.set_cons_succ,List.set_cons_zero]
  refine wpAnyH_ready (rs := [11]) (by kernel_rfl) (by simp) ?_
  refine AllReadyH.cons (o := ⟨some 51,.call { callee := .value (.func 47),args := #[.tmp 48,.tmp 50],argTypes := #[35,35] },34,"ref.go:91",#[⟨8,.data⟩,⟨10,.data⟩,⟨6,.chain⟩,⟨6,.guard⟩],some (6,false)⟩) rfl (fun K hK => ?_) AllReadyH.nil
  go_simp
  refine (rpnames_calls A12 c12 t.ps A13 c13 t.ad H2.out.drew HC.out.2.2.2.1 HC.out.2.2.2.2.1 HB.out.1 HB.out.2.1).mono ?_
  rintro e w5 ⟨v5,rfl,h5⟩
  rw [← HLn.out.1] at h5
  obtain ⟨A5,c5,rfl,hC5⟩ := str_C (l := L) rfl h5
  refine hK.out _ _ ?_ (fun hHeld => ?_)
  ·exact ⟨⟨(h5.drop.drop.drop.drop).cell 12 (v := .slice A12 t.ps.length c12) rfl,(h5.drop.drop.drop.drop).cell 13 (v := .slice A13 t.ad.length c13) rfl⟩,(h5.drop.drop.drop.drop).cell 10 (v := .slice A10 t.ns.length c10) rfl,(h5.drop.drop.drop.drop).cell 11 (v := .slice A11 t.mo.length c11) rfl⟩
  clear hK K
  try simp only [Act.put,List.setIfInBounds_toArray,List.set_cons_succ,List.set_cons_zero]
  refine wpAnyH_ready (rs := [12]) (by kernel_rfl) (by simp) ?_
  refine AllReadyH.cons (o := ⟨some 52,.call { callee := .value (.func 19),args := #[.tmp 51],argTypes := #[34] },4,"ref.go:91",#[⟨11,.data⟩,⟨11,.chain⟩,⟨6,.guard⟩],some (6,false)⟩) rfl (fun K hK => ?_) AllReadyH.nil
  go_simp
  refine (rtwice_at A5 c5 L h5 hC5).mono ?_
  rintro e w6 ⟨rfl,h6⟩
  rw [ho1]
  refine hK.out _ _ ?_ (fun hHeld => ?_)
  ·exact ⟨⟨(h6.drop.drop.drop.drop).cell 12 (v := .slice A12 t.ps.length c12) rfl,(h6.drop.drop.drop.drop).cell 13 (v := .slice A13 t.ad.length c13) rfl⟩,(h6.drop.drop.drop.drop).cell 10 (v := .slice A10 t.ns.length c10) rfl,(h6.drop.drop.drop.drop).cell 11 (v := .slice A11 t.mo.length c11) rfl⟩
  clear hK K
  try simp only [Act.put,List.setIfInBounds_toArray,List.set_cons_succ,List.set_cons_zero]
  refine wpAnyH_take (i := 13) (oi := ⟨some 53,.pick (.tmp 46) (.const (.bool true)) (.tmp 52),4,"ref.go:91",#[⟨6,.data⟩,⟨12,.data⟩],none⟩) (v := ?_) rfl (by kernel_rfl) (by kernel_rfl) (by kernel_rfl) (fun _ _ _ h => h) (Or.inl ⟨by rfl, ?_⟩) (by assumption) ?_
  rotate_left 1
  ·intro w hSw
   try dsimp only at hSw
   go_simp
   all_goals with_reducible rfl
  try simp only [Act.put,List.setIfInBounds_toArray,List.set_cons_succ,List.set_cons_zero]
  refine wpAnyH_take (i := 14) (oi := ⟨some 54,.move (.tmp 53),4,"ref.go:91",#[⟨13,.data⟩,⟨12,.chain⟩],none⟩) (v := ?_) rfl (by kernel_rfl) (by kernel_rfl) (by kernel_rfl) (fun _ _ _ h => h) (Or.inl ⟨by rfl, ?_⟩) (by assumption) ?_
  rotate_left 1
  ·intro w hSw
   try dsimp only at hSw
   go_simp
   all_goals with_reducible rfl
  try simp only [Act.put,List.setIfInBounds_toArray,List.set_cons_succ,List.set_cons_zero]
  refine wpAnyH_take (i := 16) (oi := ⟨some 56,.fieldAddr 38 (.tmp 3) 5,0,"ref.go:91",#[⟨14,.guard⟩],some (14,false)⟩) (v := ?_) rfl (by kernel_rfl) (by kernel_rfl) (by kernel_rfl) (fun _ _ _ h => h) (Or.inl ⟨by rfl, ?_⟩) (by assumption) ?_
  rotate_left 1
  ·intro w hSw
   try dsimp only at hSw
   go_simp
   all_goals with_reducible rfl
  try simp only [Act.put,List.setIfInBounds_toArray,List.set_cons_succ,List.set_cons_zero]
  refine wpAnyH_take (i := 17) (oi := ⟨some 57,.load 34 (.tmp 56),34,"ref.go:91",#[⟨16,.data⟩,⟨14,.guard⟩],some (14,false)⟩) (v := ?_) rfl (by kernel_rfl) (by kernel_rfl) (by kernel_rfl) (fun _ _ _ h => h) (Or.inl ⟨by rfl, ?_⟩) (by assumption) ?_
  rotate_left 1
  ·intro w hSw
   try dsimp only at hSw
   go_simp
   all_goals with_reducible rfl
  try simp only [Act.put,List.setIfInBounds_toArray,List.set_cons_succ,List.set_cons_zero]
  refine wpAnyH_take (i := 19) (oi := ⟨some 59,.fieldAddr 38 (.tmp 3) 6,0,"ref.go:91",#[⟨14,.guard⟩],some (14,false)⟩) (v := ?_) rfl (by kernel_rfl) (by kernel_rfl) (by kernel_rfl) (fun _ _ _ h => h) (Or.inl ⟨by rfl, ?_⟩) (by assumption) ?_
  rotate_left 1
  ·intro w hSw
   try dsimp only at hSw
   go_simp
   all_goals with_reducible rfl
  try simp only [Act.put,List.setIfInBounds_toArray,List.set_cons_succ,List.set_cons_zero]
  refine wpAnyH_take (i := 20) (oi := ⟨some 60,.load 34 (.tmp 59),34,"ref.go:91",#[⟨19,.data⟩,⟨14,.guard⟩],some (14,false)⟩) (v := ?_) rfl (by kernel_rfl) (by kernel_rfl) (by kernel_rfl) (fun _ _ _ h => h) (Or.inl ⟨by rfl, ?_⟩) (by assumption) ?_
  rotate_left 1
  ·intro w hSw
   try dsimp only at hSw
   go_simp
   all_goals with_reducible rfl
  try simp only [Act.put,List.setIfInBounds_toArray,List.set_cons_succ,List.set_cons_zero]
  refine wpAnyH_ready (rs := [15]) (by kernel_rfl) (by simp) ?_
  refine AllReadyH.cons (o := ⟨some 55,.buildSlice 34 0 #[],34,"ref.go:91",#[⟨14,.guard⟩],some (14,false)⟩) rfl (fun K hK => ?_) AllReadyH.nil
  go_simp
  have h7 := made0 (e := 9) (size := 1) (n := w6.heap.size) h6 rfl
  refine hK.out _ _ ?_ (fun hHeld => ?_)
  ·exact ⟨⟨(h7.drop.drop.drop.drop.drop).cell 12 (v := .slice A12 t.ps.length c12) rfl,(h7.drop.drop.drop.drop.drop).cell 13 (v := .slice A13 t.ad.length c13) rfl⟩,(h7.drop.drop.drop.drop.drop).cell 10 (v := .slice A10 t.ns.length c10) rfl,(h7.drop.drop.drop.drop.drop).cell 11 (v := .slice A11 t.mo.length c11) rfl⟩
  clear hK K
  try simp only [Act.put,List.setIfInBounds_toArray,List.set_cons_succ,List.set_cons_zero]
  refine wpAnyH_ready (rs := [18]) (by kernel_rfl) (by simp) ?_
  refine AllReadyH.cons (o := ⟨some 58,.call { callee := .builtin .append,args := #[.tmp 55,.tmp 57],argTypes := #[34,34] },34,"ref.go:91",#[⟨15,.data⟩,⟨17,.data⟩,⟨14,.chain⟩,⟨14,.guard⟩],some (14,false)⟩) rfl (fun K hK => ?_) AllReadyH.nil
  refine step_appR (by rfl) _ _ Tryz.underlying34 info_strs rfl (by decide) (by rfl) _ 0 [] (by rfl) h7 (by rfl) (by simp [strV]) (fun j u hu => by
   obtain ⟨ad',e,hc⟩ := str_rows HC.out.2.1 j u hu
   exact ⟨ad',e,pw_cell_below h7.below hc⟩) (str_one t.ns) (by have := HB.out.2.2.1; simp only [maxLen]; omega) (by have := HB.out.2.2.1; omega) ?_
  intro v8 w8 h8
  refine hK.out _ _ ?_ (fun hHeld => ?_)
  ·exact ⟨⟨(h8.drop.drop.drop.drop.drop).cell 12 (v := .slice A12 t.ps.length c12) rfl,(h8.drop.drop.drop.drop.drop).cell 13 (v := .slice A13 t.ad.length c13) rfl⟩,(h8.drop.drop.drop.drop.drop).cell 10 (v := .slice A10 t.ns.length c10) rfl,(h8.drop.drop.drop.drop.drop).cell 11 (v := .slice A11 t.mo.length c11) rfl⟩
  clear hK K
  try simp only [Act.put,List.setIfInBounds_toArray,List.set_cons_succ,List.set_cons_zero]
  refine wpAnyH_ready (rs := [21]) (by kernel_rfl) (by simp) ?_
  refine AllReadyH.cons (o := ⟨some 61,.call { callee := .builtin .append,args := #[.tmp 58,.tmp 60],argTypes := #[34,34] },34,"ref.go:91",#[⟨18,.data⟩,⟨20,.data⟩,⟨18,.chain⟩,⟨14,.guard⟩],some (14,false)⟩) rfl (fun K hK => ?_) AllReadyH.nil
  refine step_appR (by rfl) _ _ Tryz.underlying34 info_strs rfl (by decide) (by rfl) _ (0 + t.ns.length) ([] ++ strV t.ns) (by rfl) h8 (by rfl) (by simp [strV]) (fun j u hu => by
   obtain ⟨ad',e,hc⟩ := str_rows HC.out.2.2.1 j u hu
   exact ⟨ad',e,pw_cell_below h8.below hc⟩) (str_one t.mo) (by have := HB.out.2.2.1; have := HB.out.2.2.2; simp only [maxLen]; omega) (by have := HB.out.2.2.1; have := HB.out.2.2.2; omega) ?_
  intro v9 w9 h9
  rw [List.nil_append,strV_app, ← HLn.out.2.1] at h9
  obtain ⟨A6,c6,rfl,hC6⟩ := str_C (l := N) (by rw [HLn.out.2.2]; omega) h9
  refine hK.out _ _ ?_ (fun hHeld => ?_)
  ·exact ⟨⟨(h9.drop.drop.drop.drop.drop).cell 12 (v := .slice A12 t.ps.length c12) rfl,(h9.drop.drop.drop.drop.drop).cell 13 (v := .slice A13 t.ad.length c13) rfl⟩,(h9.drop.drop.drop.drop.drop).cell 10 (v := .slice A10 t.ns.length c10) rfl,(h9.drop.drop.drop.drop.drop).cell 11 (v := .slice A11 t.mo.length c11) rfl⟩
  clear hK K
  try simp only [Act.put,List.setIfInBounds_toArray,List.set_cons_succ,List.set_cons_zero]
  refine wpAnyH_ready (rs := [22]) (by kernel_rfl) (by simp) ?_
  refine AllReadyH.cons (o := ⟨some 62,.call { callee := .value (.func 19),args := #[.tmp 61],argTypes := #[34] },4,"ref.go:91",#[⟨21,.data⟩,⟨21,.chain⟩,⟨14,.guard⟩],some (14,false)⟩) rfl (fun K hK => ?_) AllReadyH.nil
  go_simp
  refine (rtwice_at A6 c6 N h9 hC6).mono ?_
  rintro e w10 ⟨rfl,h10⟩
  rw [ho2]
  refine hK.out _ _ ?_ (fun hHeld => ?_)
  ·exact ⟨⟨(h10.drop.drop.drop.drop.drop).cell 12 (v := .slice A12 t.ps.length c12) rfl,(h10.drop.drop.drop.drop.drop).cell 13 (v := .slice A13 t.ad.length c13) rfl⟩,(h10.drop.drop.drop.drop.drop).cell 10 (v := .slice A10 t.ns.length c10) rfl,(h10.drop.drop.drop.drop.drop).cell 11 (v := .slice A11 t.mo.length c11) rfl⟩
  clear hK K
  try simp only [Act.put,List.setIfInBounds_toArray,List.set_cons_succ,List.set_cons_zero]
  refine wpAnyH_take (i := 23) (oi := ⟨some 63,.pick (.tmp 54) (.const (.bool true)) (.tmp 62),4,"ref.go:91",#[⟨14,.data⟩,⟨22,.data⟩],none⟩) (v := ?_) rfl (by kernel_rfl) (by kernel_rfl) (by kernel_rfl) (fun _ _ _ h => h) (Or.inl ⟨by rfl, ?_⟩) (by assumption) ?_
  rotate_left 1
  ·intro w hSw
   try dsimp only at hSw
   go_simp
   all_goals with_reducible rfl
  try simp only [Act.put,List.setIfInBounds_toArray,List.set_cons_succ,List.set_cons_zero]
  refine wpAnyH_done (by kernel_rfl) ?_ _
  have H3 := Lib.hid h10.drop.drop
  clear h6 h5 h7 h8 h9 h10 hHeld hC5 hC6 H2 ho1 ho2
  go_wp2_with (refine held_store _ _ _ rfl ?_)
  refine ⟨?_⟩
  refine wpList_store_off rfl rfl [.slice A20 n20 c20] rfl rfl rfl (by kernel_rfl) (by simp [Value.oneCell']) (four H3.out) (by simp) (new := #[.int .i64 t.k,.string t.n,.int .i64 t.c.f0,.int .i64 t.c.f1,.int .i64 t.c.f2,.bool t.c.f3,.bool t.c.f4,.slice A7 t.c.f5.length c7,.bool t.e,.string t.fr,.slice A10 t.ns.length c10,.slice A11 t.mo.length c11,.slice A20 n20 c20,.slice A13 t.ad.length c13,.slice A14 t.el.length c14]) rfl ?_
  intro w11 h11
  have H4 := Lib.hid h11
  clear h11 H3
  go_wp2_with (refine held_store _ _ _ rfl ?_)
  refine ⟨?_⟩
  refine wpList_store_off rfl rfl [.slice A21 n21 c21] rfl rfl rfl (by kernel_rfl) (by simp [Value.oneCell']) H4.out (by simp) (new := #[.int .i64 t.k,.string t.n,.int .i64 t.c.f0,.int .i64 t.c.f1,.int .i64 t.c.f2,.bool t.c.f3,.bool t.c.f4,.slice A7 t.c.f5.length c7,.bool t.e,.string t.fr,.slice A10 t.ns.length c10,.slice A11 t.mo.length c11,.slice A20 n20 c20,.slice A21 n21 c21,.slice A14 t.el.length c14]) rfl ?_
  intro w12 h12
  have H5 : Hid (S w0 w12 (RowV 38 15 (.slice none 0 0) ([] : List Ty).length [] • (Vw w0 w0.heap.size (fun W => Reps (kTy.K W) 15 ([] : List Ty) []) • (Blk (g + 1) (.cells #[.int .i64 t.k,.string t.n,.int .i64 t.c.f0,.int .i64 t.c.f1,.int .i64 t.c.f2,.bool t.c.f3,.bool t.c.f4,.slice A7 t.c.f5.length c7,.bool t.e,.string t.fr,.slice A10 t.ns.length c10,.slice A11 t.mo.length c11,.slice A20 n20 c20,.slice A21 n21 c21,.slice A14 t.el.length c14] 38) • (Blk g (.cells mc.toArray 44) • (Blk (g + 2) (.cells #[.int .i64 0,.string ⟨#[]⟩,.int .i64 0,.int .i64 0,.int .i64 0,.bool false,.bool false,.slice none 0 0,.bool false,.string ⟨#[]⟩,.slice none 0 0,.slice none 0 0,.slice none 0 0,.slice none 0 0,.slice none 0 0] 38) • (Vw w0 w0.heap.size (fun W => ∀ r,partsP (typP (rlook m) n) t.ad = some r → n21 = r.length ∧ r.length ≤ c21 ∧ kPt.C W A21 r.length r) • (Vw w0 w0.heap.size (fun W => ∀ r,partsP (typP (rlook m) n) t.ps = some r → n20 = r.length ∧ r.length ≤ c20 ∧ kPt.C W A20 r.length r) • R)))))))) := Lib.hid ((Vw.base (five (five (four (h12.three.three)))) (fun wv _ => Reps.none _ _)).nil _ _)
  clear h12 H4
  go_wp2
  go_loopw [10,11] (fun vo v wr => ∃ (va : Value) (x : Int) (y : List Ty) (xk : List Value),va = vo ∧ 0 ≤ x ∧ x ≤ t.el.length ∧ v = .int .i64 x ∧ Hid (S w0 wr (RowV 38 15 va y.length xk • (Vw w0 w0.heap.size (fun W => Reps (kTy.K W) 15 y xk) • (Blk (g + 1) (.cells #[.int .i64 t.k,.string t.n,.int .i64 t.c.f0,.int .i64 t.c.f1,.int .i64 t.c.f2,.bool t.c.f3,.bool t.c.f4,.slice A7 t.c.f5.length c7,.bool t.e,.string t.fr,.slice A10 t.ns.length c10,.slice A11 t.mo.length c11,.slice A20 n20 c20,.slice A21 n21 c21,.slice A14 t.el.length c14] 38) • (Blk g (.cells mc.toArray 44) • (Blk (g + 2) (.cells #[.int .i64 0,.string ⟨#[]⟩,.int .i64 0,.int .i64 0,.int .i64 0,.bool false,.bool false,.slice none 0 0,.bool false,.string ⟨#[]⟩,.slice none 0 0,.slice none 0 0,.slice none 0 0,.slice none 0 0,.slice none 0 0] 38) • (Vw w0 w0.heap.size (fun W => ∀ r,partsP (typP (rlook m) n) t.ad = some r → n21 = r.length ∧ r.length ≤ c21 ∧ kPt.C W A21 r.length r) • (Vw w0 w0.heap.size (fun W => ∀ r,partsP (typP (rlook m) n) t.ps = some r → n20 = r.length ∧ r.length ≤ c20 ∧ kPt.C W A20 r.length r) • R)))))))) ∧ Hid (mapO (typP (rlook m) n) (t.el.take x.toNat) = some y)) (fun _ v _ => t.el.length - (intOf v).toNat)
  case atStart => exact ⟨_,0,[],[],rfl,Int.le_refl _,by omega,rfl,H5,Lib.hid rfl⟩
  case round =>
   clear H5
   obtain ⟨va,x,y,xk,rfl,hx0,hx1,rfl,HR,HY⟩ := hrel
   have b14 := HR.out.drop.drop.cell 14 (v := .slice A14 t.el.length c14) rfl
   by_cases hlt : x < t.el.length
   ·obtain ⟨ad,ts,eA,hcl0,hKx,hcell0⟩ := Kd.C_get HC.out.2.2.2.2.2 zTy x hx0 hlt
    cases eA
    have HG := Lib.hid (getD_mem t.el zTy x hx0 hlt)
    generalize t.el.getD x.toNat zTy = r at *
    have hrm := List.mem_of_getElem? HG.out
    have HK : Hid (kTy.K w0 r ts ∧ ts.length = 15) := Lib.hid (And.intro hKx hcl0)
    have HO := Lib.hid (And.intro (HEl.out.1 r hrm) (HEl.out.2.1 r hrm))
    have HF : Hid (∀ W,Below w0.heap.size w0 W → ∀ (j : Nat) (v : Value),ts[j]? = some v → W.cell? ((ad.add (x.toNat * 15)).add j) = some v) := Lib.hid fun W hW => elem_cells hW hcell0
    have HRm := Lib.hid hrm
    have p126 := eq_true hx0
    have q126 : (x < (t.el.length : Int)) = True := eq_true hlt
    clear hcell0 hcl0 hKx hrm
    go_upto_region 14 with fail
    try simp only [Act.put]
    go_cut [12,13] from 76 to 85 (fun s8 s9 wx => ∃ (gx : Nat) (qs : List Value),s8 = .pointer (some ⟨gx,0,none⟩) ∧ s9 = .bool (typP (rlook m) n r).isSome ∧ Hid (qs.length = 15 ∧ ∀ u ∈ qs,u.oneCell' = true) ∧ Hid (S w0 wx (Blk gx (.cells qs.toArray 38) • (Vw w0 w0.heap.size (fun W => ∀ r',typP (rlook m) n r = some r' → kTy.K W r' qs) • (RowV 38 15 va y.length xk • (Vw w0 w0.heap.size (fun W => Reps (kTy.K W) 15 y xk) • (Blk (g + 1) (.cells #[.int .i64 t.k,.string t.n,.int .i64 t.c.f0,.int .i64 t.c.f1,.int .i64 t.c.f2,.bool t.c.f3,.bool t.c.f4,.slice A7 t.c.f5.length c7,.bool t.e,.string t.fr,.slice A10 t.ns.length c10,.slice A11 t.mo.length c11,.slice A20 n20 c20,.slice A21 n21 c21,.slice (some ad) t.el.length c14] 38) • (Blk g (.cells mc.toArray 44) • (Blk (g + 2) (.cells #[.int .i64 0,.string ⟨#[]⟩,.int .i64 0,.int .i64 0,.int .i64 0,.bool false,.bool false,.slice none 0 0,.bool false,.string ⟨#[]⟩,.slice none 0 0,.slice none 0 0,.slice none 0 0,.slice none 0 0,.slice none 0 0] 38) • (Vw w0 w0.heap.size (fun W => ∀ r,partsP (typP (rlook m) n) t.ad = some r → n21 = r.length ∧ r.length ≤ c21 ∧ kPt.C W A21 r.length r) • (Vw w0 w0.heap.size (fun W => ∀ r,partsP (typP (rlook m) n) t.ps = some r → n20 = r.length ∧ r.length ≤ c20 ∧ kPt.C W A20 r.length r) • R)))))))))))
    case first =>
     refine wp_region_held_drew (S := fun W => Hid (∀ (j : Nat) (v : Value),mc[j]? = some v → W.cell? ((⟨g,0,none⟩ : Addr).add j) = some v) ∧ Hid (∀ (j : Nat) (v : Value),ts[j]? = some v → W.cell? ((ad.add (x.toNat * 15) : Addr).add j) = some v) ∧ W.cell? ⟨g + 1,14,none⟩ = some (.slice (some ad) t.el.length c14)) (by kernel_rfl) ?_ (fun hHeld => ?_)
     ·exact ⟨Lib.hid (blk_cellsR (HR.out.drew).drop.drop.drop),Lib.hid (HF.out _ (HR.out.drew).below),(HR.out.drew.drop.drop).cell 14 (v := .slice (some ad) t.el.length c14) rfl⟩
     refine wpAnyH_take (i := 0) (oi := ⟨some 77,.load 44 (.tmp 2),44,"ref.go:98",#[],none⟩) (v := .agg (mc : List Value).toArray) rfl (by kernel_rfl) (by kernel_rfl) (by kernel_rfl) (fun _ _ _ h => h) (yields_loadR (by rfl) 44 _ rfl (⟨g,0,none⟩) rfl mc (fun w hS => hS.1.out) _ Tryz.underlying44 rfl (by rw [HM.out.2]; kernel_rfl)) (by assumption) ?_
     try simp only [Act.put,List.setIfInBounds_toArray,List.set_cons_succ,List.set_cons_zero]
     refine wpAnyH_take (i := 1) (oi := ⟨some 78,.fieldAddr 38 (.tmp 3) 9,0,"ref.go:98",#[],none⟩) (v := ?_) rfl (by kernel_rfl) (by kernel_rfl) (by kernel_rfl) (fun _ _ _ h => h) (Or.inl ⟨by rfl, ?_⟩) (by assumption) ?_
     rotate_left 1
     ·intro w hSw
      try dsimp only at hSw
      go_simp
      all_goals with_reducible rfl
     try simp only [Act.put,List.setIfInBounds_toArray,List.set_cons_succ,List.set_cons_zero]
     refine wpAnyH_take (i := 2) (oi := ⟨some 79,.load 36 (.tmp 78),36,"ref.go:98",#[⟨1,.data⟩],none⟩) (v := ?_) rfl (by kernel_rfl) (by kernel_rfl) (by kernel_rfl) (fun _ _ _ h => h) (Or.inl ⟨by rfl, ?_⟩) (by assumption) ?_
     rotate_left 1
     ·intro w hSw
      try dsimp only at hSw
      go_simp
      all_goals with_reducible rfl
     try simp only [Act.put,List.setIfInBounds_toArray,List.set_cons_succ,List.set_cons_zero]
     refine wpAnyH_take (i := 3) (oi := ⟨some 80,.move (.tmp 11),3,"ref.go:98",#[],none⟩) (v := ?_) rfl (by kernel_rfl) (by kernel_rfl) (by kernel_rfl) (fun _ _ _ h => h) (Or.inl ⟨by rfl, ?_⟩) (by assumption) ?_
     rotate_left 1
     ·intro w hSw
      try dsimp only at hSw
      go_simp
      all_goals with_reducible rfl
     try simp only [Act.put,List.setIfInBounds_toArray,List.set_cons_succ,List.set_cons_zero]
     refine wpAnyH_take (i := 4) (oi := ⟨some 81,.indexAddr 36 (.tmp 79) (.tmp 80),0,"ref.go:98",#[⟨2,.data⟩,⟨3,.data⟩],none⟩) (v := ?_) rfl (by kernel_rfl) (by kernel_rfl) (by kernel_rfl) (fun _ _ _ h => h) (Or.inl ⟨by rfl, ?_⟩) (by assumption) ?_
     rotate_left 1
     ·intro w hSw
      try dsimp only at hSw
      go_simp
      all_goals with_reducible rfl
     try simp only [Act.put,List.setIfInBounds_toArray,List.set_cons_succ,List.set_cons_zero]
     refine wpAnyH_take (i := 5) (oi := ⟨some 82,.load 38 (.tmp 81),38,"ref.go:98",#[⟨4,.data⟩],none⟩) (v := .agg (ts : List Value).toArray) rfl (by kernel_rfl) (by kernel_rfl) (by kernel_rfl) (fun _ _ _ h => h) (yields_loadR (by rfl) 38 _ rfl (ad.add (x.toNat * 15)) rfl ts (fun w hS => hS.2.1.out) _ Tryz.underlying38 rfl (by rw [HK.out.2]; kernel_rfl)) (by assumption) ?_
     try simp only [Act.put,List.setIfInBounds_toArray,List.set_cons_succ,List.set_cons_zero]
     refine wpAnyH_ready (rs := [6,10]) (by kernel_rfl) (by simp) ?_
     refine AllReadyH.cons (o := ⟨some 83,.call { callee := .value (.func 21),args := #[.tmp 77,.tmp 82],argTypes := #[44,38] },62,"ref.go:98",#[⟨0,.data⟩,⟨5,.data⟩],none⟩) rfl (fun K hK => ?_) (AllReadyH.cons (o := ⟨some 12,.alloc 38,0,"ref.go:98",#[],none⟩) rfl (fun K hK => ?_) AllReadyH.nil)
     ·go_simp
      refine (HI.out _ _ r ts HR.out.drew HK.out.1 HO.out.1 HO.out.2).mono ?_
      rintro e w5 ⟨qs,hq1,hq2,rfl,h5⟩
      refine hK.out _ _ ?_ (fun hHeld => ?_)
      ·exact ⟨Lib.hid (blk_cellsR (h5).drop.drop.drop.drop),Lib.hid (HF.out _ (h5).below),(h5.drop.drop.drop).cell 14 (v := .slice (some ad) t.el.length c14) rfl⟩
      clear hK K
      try simp only [Act.put,List.setIfInBounds_toArray,List.set_cons_succ,List.set_cons_zero]
      refine wpAnyH_take (i := 7) (oi := ⟨some 76,.move (.tmp 83),62,"ref.go:98",#[⟨6,.data⟩],none⟩) (v := ?_) rfl (by kernel_rfl) (by kernel_rfl) (by kernel_rfl) (fun _ _ _ h => h) (Or.inl ⟨by rfl, ?_⟩) (by assumption) ?_
      rotate_left 1
      ·intro w hSw
       try dsimp only at hSw
       go_simp
       all_goals with_reducible rfl
      try simp only [Act.put,List.setIfInBounds_toArray,List.set_cons_succ,List.set_cons_zero]
      refine wpAnyH_take (i := 8) (oi := ⟨some 84,.extract (.tmp 76) 0,38,"ref.go:98",#[⟨7,.data⟩],none⟩) (v := ?_) rfl (by kernel_rfl) (by kernel_rfl) (by kernel_rfl) (fun _ _ _ h => h) (Or.inl ⟨by rfl, ?_⟩) (by assumption) ?_
      rotate_left 1
      ·intro w hSw
       try dsimp only at hSw
       go_simp
       all_goals with_reducible rfl
      try simp only [Act.put,List.setIfInBounds_toArray,List.set_cons_succ,List.set_cons_zero]
      refine wpAnyH_take (i := 9) (oi := ⟨some 85,.extract (.tmp 76) 1,4,"ref.go:98",#[⟨7,.data⟩, { on := 11,ground := Ground.gcOnly Departure.lateStores }],none⟩) (v := ?_) rfl (by kernel_rfl) (by kernel_rfl) (by kernel_rfl) (fun _ _ _ h => h) (Or.inl ⟨by rfl, ?_⟩) (by assumption) ?_
      rotate_left 1
      ·intro w hSw
       try dsimp only at hSw
       go_simp
       all_goals with_reducible rfl
      try simp only [Act.put,List.setIfInBounds_toArray,List.set_cons_succ,List.set_cons_zero]
      refine wpAnyH_ready (rs := [10]) (by kernel_rfl) (by simp) ?_
      refine AllReadyH.cons (o := ⟨some 12,.alloc 38,0,"ref.go:98",#[],none⟩) rfl (fun K hK => ?_) AllReadyH.nil
      go_simp
      generalize hgx : w5.heap.size = gx
      have h4 := alloc_at (n := gx) h5 (.cells #[.int .i64 0,.string ⟨#[]⟩,.int .i64 0,.int .i64 0,.int .i64 0,.bool false,.bool false,.slice none 0 0,.bool false,.string ⟨#[]⟩,.slice none 0 0,.slice none 0 0,.slice none 0 0,.slice none 0 0,.slice none 0 0] 38) hgx.symm
      refine hK.out _ _ ?_ (fun hHeld => ?_)
      ·exact ⟨Lib.hid (blk_cellsR (h4).drop.drop.drop.drop.drop),Lib.hid (HF.out _ (h4).below),(h4.drop.drop.drop.drop).cell 14 (v := .slice (some ad) t.el.length c14) rfl⟩
      clear hK K
      try simp only [Act.put,List.setIfInBounds_toArray,List.set_cons_succ,List.set_cons_zero]
      refine wpAnyH_ready (rs := [11]) (by kernel_rfl) (by simp) ?_
      refine AllReadyH.cons (o := ⟨none,.store 38 (.tmp 12) (.tmp 84),0,"ref.go:98",#[⟨10,.data⟩,⟨8,.data⟩,⟨6,.chain⟩,⟨0,.phase⟩,⟨1,.phase⟩,⟨2,.phase⟩,⟨3,.phase⟩,⟨4,.phase⟩,⟨5,.phase⟩,⟨6,.phase⟩,⟨7,.phase⟩,⟨8,.phase⟩, { on := 9,ground := Ground.textOnly Departure.lateStores },⟨10,.phase⟩],none⟩) rfl (fun K hK => ?_) AllReadyH.nil
      refine step_store_blk (by rfl) (ty := 38) (by rfl) qs (by rfl) (by rfl) rfl (by rw [hq1]; kernel_rfl) hq2 h4 (by rw [hq1]; rfl) ?_
      intro w6 h6
      refine hK.out _ _ ?_ (fun hHeld => ?_)
      ·exact ⟨Lib.hid (blk_cellsR (h6).drop.drop.drop.drop.drop),Lib.hid (HF.out _ (h6).below),(h6.drop.drop.drop.drop).cell 14 (v := .slice (some ad) t.el.length c14) rfl⟩
      clear hK K
      try simp only [Act.put,List.setIfInBounds_toArray,List.set_cons_succ,List.set_cons_zero]
      refine wpAnyH_take (i := 12) (oi := ⟨some 13,.assign (.tmp 85),4,"ref.go:98",#[⟨9,.data⟩,⟨11,.chain⟩,⟨0,.phase⟩,⟨1,.phase⟩,⟨2,.phase⟩,⟨3,.phase⟩,⟨4,.phase⟩,⟨5,.phase⟩,⟨6,.phase⟩,⟨7,.phase⟩,⟨8,.phase⟩,⟨9,.phase⟩,⟨10,.phase⟩,⟨11,.phase⟩],none⟩) (v := ?_) rfl (by kernel_rfl) (by kernel_rfl) (by kernel_rfl) (fun _ _ _ h => h) (Or.inl ⟨by rfl, ?_⟩) (by assumption) ?_
      rotate_left 1
      ·intro w hSw
       try dsimp only at hSw
       go_simp
       all_goals with_reducible rfl
      try simp only [Act.put,List.setIfInBounds_toArray,List.set_cons_succ,List.set_cons_zero]
      refine wpAnyH_done (by kernel_rfl) ?_ _
      go_wp2_with fail
      go_meet
      exact ⟨_,_,rfl,rfl,Lib.hid ⟨hq1,hq2⟩,Lib.hid h6⟩
     ·go_simp
      generalize hgx : wr.heap.size = gx
      have h4 := (alloc_at (n := gx) HR.out (.cells #[.int .i64 0,.string ⟨#[]⟩,.int .i64 0,.int .i64 0,.int .i64 0,.bool false,.bool false,.slice none 0 0,.bool false,.string ⟨#[]⟩,.slice none 0 0,.slice none 0 0,.slice none 0 0,.slice none 0 0,.slice none 0 0] 38) hgx.symm).drew
      refine hK.out _ _ ?_ (fun hHeld => ?_)
      ·exact ⟨Lib.hid (blk_cellsR (h4).drop.drop.drop.drop),Lib.hid (HF.out _ (h4).below),(h4.drop.drop.drop).cell 14 (v := .slice (some ad) t.el.length c14) rfl⟩
      clear hK K
      try simp only [Act.put,List.setIfInBounds_toArray,List.set_cons_succ,List.set_cons_zero]
      refine wpAnyH_ready (rs := [6]) (by kernel_rfl) (by simp) ?_
      refine AllReadyH.cons (o := ⟨some 83,.call { callee := .value (.func 21),args := #[.tmp 77,.tmp 82],argTypes := #[44,38] },62,"ref.go:98",#[⟨0,.data⟩,⟨5,.data⟩],none⟩) rfl (fun K hK => ?_) AllReadyH.nil
      go_simp
      refine (HI.out _ _ r ts h4 HK.out.1 HO.out.1 HO.out.2).mono ?_
      rintro e w5 ⟨qs,hq1,hq2,rfl,h5⟩
      refine hK.out _ _ ?_ (fun hHeld => ?_)
      ·exact ⟨Lib.hid (blk_cellsR (h5).drop.drop.drop.drop.drop),Lib.hid (HF.out _ (h5).below),(h5.drop.drop.drop.drop).cell 14 (v := .slice (some ad) t.el.length c14) rfl⟩
      clear hK K
      try simp only [Act.put,List.setIfInBounds_toArray,List.set_cons_succ,List.set_cons_zero]
      refine wpAnyH_take (i := 7) (oi := ⟨some 76,.move (.tmp 83),62,"ref.go:98",#[⟨6,.data⟩],none⟩) (v := ?_) rfl (by kernel_rfl) (by kernel_rfl) (by kernel_rfl) (fun _ _ _ h => h) (Or.inl ⟨by rfl, ?_⟩) (by assumption) ?_
      rotate_left 1
      ·intro w hSw
       try dsimp only at hSw
       go_simp
       all_goals with_reducible rfl
      try simp only [Act.put,List.setIfInBounds_toArray,List.set_cons_succ,List.set_cons_zero]
      refine wpAnyH_take (i := 8) (oi := ⟨some 84,.extract (.tmp 76) 0,38,"ref.go:98",#[⟨7,.data⟩],none⟩) (v := ?_) rfl (by kernel_rfl) (by kernel_rfl) (by kernel_rfl) (fun _ _ _ h => h) (Or.inl ⟨by rfl, ?_⟩) (by assumption) ?_
      rotate_left 1
      ·intro w hSw
       try dsimp only at hSw
       go_simp
       all_goals with_reducible rfl
      try simp only [Act.put,List.setIfInBounds_toArray,List.set_cons_succ,List.set_cons_zero]
      refine wpAnyH_take (i := 9) (oi := ⟨some 85,.extract (.tmp 76) 1,4,"ref.go:98",#[⟨7,.data⟩, { on := 11,ground := Ground.gcOnly Departure.lateStores }],none⟩) (v := ?_) rfl (by kernel_rfl) (by kernel_rfl) (by kernel_rfl) (fun _ _ _ h => h) (Or.inl ⟨by rfl, ?_⟩) (by assumption) ?_
      rotate_left 1
      ·intro w hSw
       try dsimp only at hSw
       go_simp
       all_goals with_reducible rfl
      try simp only [Act.put,List.setIfInBounds_toArray,List.set_cons_succ,List.set_cons_zero]
      refine wpAnyH_ready (rs := [11]) (by kernel_rfl) (by simp) ?_
      refine AllReadyH.cons (o := ⟨none,.store 38 (.tmp 12) (.tmp 84),0,"ref.go:98",#[⟨10,.data⟩,⟨8,.data⟩,⟨6,.chain⟩,⟨0,.phase⟩,⟨1,.phase⟩,⟨2,.phase⟩,⟨3,.phase⟩,⟨4,.phase⟩,⟨5,.phase⟩,⟨6,.phase⟩,⟨7,.phase⟩,⟨8,.phase⟩, { on := 9,ground := Ground.textOnly Departure.lateStores },⟨10,.phase⟩],none⟩) rfl (fun K hK => ?_) AllReadyH.nil
      refine step_store_blk (by rfl) (ty := 38) (by rfl) qs (by rfl) (by rfl) rfl (by rw [hq1]; kernel_rfl) hq2 h5.two (by rw [hq1]; rfl) ?_
      intro w6 h6
      refine hK.out _ _ ?_ (fun hHeld => ?_)
      ·exact ⟨Lib.hid (blk_cellsR (h6).drop.drop.drop.drop.drop),Lib.hid (HF.out _ (h6).below),(h6.drop.drop.drop.drop).cell 14 (v := .slice (some ad) t.el.length c14) rfl⟩
      clear hK K
      try simp only [Act.put,List.setIfInBounds_toArray,List.set_cons_succ,List.set_cons_zero]
      refine wpAnyH_take (i := 12) (oi := ⟨some 13,.assign (.tmp 85),4,"ref.go:98",#[⟨9,.data⟩,⟨11,.chain⟩,⟨0,.phase⟩,⟨1,.phase⟩,⟨2,.phase⟩,⟨3,.phase⟩,⟨4,.phase⟩,⟨5,.phase⟩,⟨6,.phase⟩,⟨7,.phase⟩,⟨8,.phase⟩,⟨9,.phase⟩,⟨10,.phase⟩,⟨11,.phase⟩],none⟩) (v := ?_) rfl (by kernel_rfl) (by kernel_rfl) (by kernel_rfl) (fun _ _ _ h => h) (Or.inl ⟨by rfl, ?_⟩) (by assumption) ?_
      rotate_left 1
      ·intro w hSw
       try dsimp only at hSw
       go_simp
       all_goals with_reducible rfl
      try simp only [Act.put,List.setIfInBounds_toArray,List.set_cons_succ,List.set_cons_zero]
      refine wpAnyH_done (by kernel_rfl) ?_ _
      go_wp2_with fail
      go_meet
      exact ⟨_,_,rfl,rfl,Lib.hid ⟨hq1,hq2⟩,Lib.hid h6⟩
    case rest =>
     obtain ⟨gx,qs,rfl,rfl,HQ,H7⟩ := hcut
     clear HR b14
     cases hq : typP (rlook m) n r with
     | none =>
      have HT : Hid (typP (rlook m) (n + 1) t = none) := Lib.hid (by
       rw [HT0.out]
       unfold elsP
       rw [HQ20.out,HQ21.out,mapO_none HRm.out hq]
       rfl)
      clear hq
      go_wp2_with (refine held_load 38 _ rfl ?_)
      refine ⟨?_⟩
      refine wpList_load_cells rfl 38 _ rfl _ rfl [.int .i64 t.k,.string t.n,.int .i64 t.c.f0,.int .i64 t.c.f1,.int .i64 t.c.f2,.bool t.c.f3,.bool t.c.f4,.slice A7 t.c.f5.length c7,.bool t.e,.string t.fr,.slice A10 t.ns.length c10,.slice A11 t.mo.length c11,.slice A20 n20 c20,.slice A21 n21 c21,.slice (some ad) t.el.length c14] (blk_cellsR H7.out.drop.drop.drop.drop) _ Tryz.underlying38 rfl (by kernel_rfl) ?_
      go_wp2_with (refine held_store _ _ _ rfl ?_)
      refine ⟨?_⟩
      refine wpList_store_off rfl rfl [.int .i64 t.k,.string t.n,.int .i64 t.c.f0,.int .i64 t.c.f1,.int .i64 t.c.f2,.bool t.c.f3,.bool t.c.f4,.slice A7 t.c.f5.length c7,.bool t.e,.string t.fr,.slice A10 t.ns.length c10,.slice A11 t.mo.length c11,.slice A20 n20 c20,.slice A21 n21 c21,.slice (some ad) t.el.length c14] rfl rfl rfl (by kernel_rfl) (by simp [Value.oneCell']) (H7.out.drop.drop.drop.drop.three) (by simp) (new := #[.int .i64 t.k,.string t.n,.int .i64 t.c.f0,.int .i64 t.c.f1,.int .i64 t.c.f2,.bool t.c.f3,.bool t.c.f4,.slice A7 t.c.f5.length c7,.bool t.e,.string t.fr,.slice A10 t.ns.length c10,.slice A11 t.mo.length c11,.slice A20 n20 c20,.slice A21 n21 c21,.slice (some ad) t.el.length c14]) rfl ?_
      intro wz hz
      have HZ := Lib.hid hz
      clear hz
      go_wp2
      refine bodyPost_ret (v := .tuple #[.agg #[.int .i64 t.k,.string t.n,.int .i64 t.c.f0,.int .i64 t.c.f1,.int .i64 t.c.f2,.bool t.c.f3,.bool t.c.f4,.slice A7 t.c.f5.length c7,.bool t.e,.string t.fr,.slice A10 t.ns.length c10,.slice A11 t.mo.length c11,.slice A20 n20 c20,.slice A21 n21 c21,.slice (some ad) t.el.length c14],.bool false]) (results_row_tmp Tryz.results21 _ _ (g + 2) _ _ (0,0) _ rfl HZ.out.block Tryz.underlying38 rfl (by kernel_rfl) rfl) rfl ⟨[.int .i64 t.k,.string t.n,.int .i64 t.c.f0,.int .i64 t.c.f1,.int .i64 t.c.f2,.bool t.c.f3,.bool t.c.f4,.slice A7 t.c.f5.length c7,.bool t.e,.string t.fr,.slice A10 t.ns.length c10,.slice A11 t.mo.length c11,.slice A20 n20 c20,.slice A21 n21 c21,.slice (some ad) t.el.length c14],rfl,by simp [Value.oneCell'],by rw [HT.out]; rfl, ?_⟩
      exact Vw.base (HZ.out.drop.drop.drop.drop.drop) fun wv hb r hr => by rw [HT.out] at hr; cases hr
     | some t1 =>
      have HQT := Lib.hid hq
      clear hq
      have hylen : y.length = x.toNat := by rw [mapO_len _ _ _ HY.out,List.length_take]; omega
      have HLl : Hid (y.length + 1 ≤ 256) := Lib.hid (by have := HEl.out.2.2; omega)
      clear hylen
      go_wp2_with (refine held_load 38 _ rfl ?_)
      refine ⟨?_⟩
      refine wpList_load_cells rfl 38 _ rfl _ rfl qs (blk_cellsR H7.out) _ Tryz.underlying38 rfl (by rw [HQ.out.1]; kernel_rfl) ?_
      obtain ⟨q0,q1,q2,q3,q4,q5,q6,q7,q8,q9,q10,q11,q12,q13,q14,rfl⟩ := len15 HQ.out.1
      go_wp2_with (at_builtin; refine Held.out ?_)
      refine ⟨?_⟩
      refine wpList_append_blk (by rfl) _ _ Tryz.underlying36 info_tys rfl (by decide) rfl va y.length xk rfl (cs := ([q0,q1,q2,q3,q4,q5,q6,q7,q8,q9,q10,q11,q12,q13,q14] : List Value)) (H7.out.drop.two.alloc _) rfl rfl HQ.out.2 (by have := HLl.out; simp only [maxLen]; omega) (by have := HLl.out; omega) ?_
      intro v9 w9 h9
      have H9 : Hid (S w0 w9 (RowV 38 15 v9 (y ++ [t1]).length (xk ++ ([q0,q1,q2,q3,q4,q5,q6,q7,q8,q9,q10,q11,q12,q13,q14] : List Value)) • (Vw w0 w0.heap.size (fun W => Reps (kTy.K W) 15 (y ++ [t1]) (xk ++ ([q0,q1,q2,q3,q4,q5,q6,q7,q8,q9,q10,q11,q12,q13,q14] : List Value))) • (Blk (g + 1) (.cells #[.int .i64 t.k,.string t.n,.int .i64 t.c.f0,.int .i64 t.c.f1,.int .i64 t.c.f2,.bool t.c.f3,.bool t.c.f4,.slice A7 t.c.f5.length c7,.bool t.e,.string t.fr,.slice A10 t.ns.length c10,.slice A11 t.mo.length c11,.slice A20 n20 c20,.slice A21 n21 c21,.slice (some ad) t.el.length c14] 38) • (Blk g (.cells mc.toArray 44) • (Blk (g + 2) (.cells #[.int .i64 0,.string ⟨#[]⟩,.int .i64 0,.int .i64 0,.int .i64 0,.bool false,.bool false,.slice none 0 0,.bool false,.string ⟨#[]⟩,.slice none 0 0,.slice none 0 0,.slice none 0 0,.slice none 0 0,.slice none 0 0] 38) • (Vw w0 w0.heap.size (fun W => ∀ r,partsP (typP (rlook m) n) t.ad = some r → n21 = r.length ∧ r.length ≤ c21 ∧ kPt.C W A21 r.length r) • (Vw w0 w0.heap.size (fun W => ∀ r,partsP (typP (rlook m) n) t.ps = some r → n20 = r.length ∧ r.length ≤ c20 ∧ kPt.C W A20 r.length r) • R)))))))) := Lib.hid (by
       rw [List.length_append,List.length_singleton]
       refine (Vw.map (Vw.join h9.two.drop.three.three) fun wv hb hp => ?_).two
       exact Reps.snoc hp.2 (hp.1 _ HQT.out) rfl)
      have HY2 : Hid (mapO (typP (rlook m) n) (t.el.take (x + 1).toNat) = some (y ++ [t1])) := Lib.hid (by
       rw [show (x + 1).toNat = x.toNat + 1 by omega]
       exact mapO_take HG.out HY.out HQT.out)
      clear h9 H7
      go_wp2
      exact ⟨⟨_,x + 1,_,_,rfl,by omega,by omega,by go_num,H9,HY2⟩,by simp only [intOf]; omega⟩
   ·have hlt' : (x < (t.el.length : Int)) = False := eq_false hlt
    have HYe : Hid (mapO (typP (rlook m) n) t.el = some y) := Lib.hid (by
     have h := HY.out
     rwa [List.take_of_length_le (by omega)] at h)
    have HT : Hid (typP (rlook m) (n + 1) t = some ⟨t.k,t.n,t.c,t.e,t.fr,t.ns,t.mo,ps1,ad1,y⟩) := Lib.hid (by
     rw [HT0.out]
     unfold elsP
     rw [HQ20.out,HQ21.out,HYe.out]
     rfl)
    obtain ⟨-,A',c',rfl, -, -⟩ := HR.out.reads
    go_wp2_with (refine held_store _ _ _ rfl ?_)
    refine ⟨?_⟩
    refine wpList_store_off rfl rfl [.slice A' y.length c'] rfl rfl rfl (by kernel_rfl) (by simp [Value.oneCell']) HR.out.three (by simp) (new := #[.int .i64 t.k,.string t.n,.int .i64 t.c.f0,.int .i64 t.c.f1,.int .i64 t.c.f2,.bool t.c.f3,.bool t.c.f4,.slice A7 t.c.f5.length c7,.bool t.e,.string t.fr,.slice A10 t.ns.length c10,.slice A11 t.mo.length c11,.slice A20 n20 c20,.slice A21 n21 c21,.slice A' y.length c']) rfl ?_
    intro w13 h13
    have H6 := Lib.hid h13
    clear h13 HR b14
    go_wp2_with (refine held_load 38 _ rfl ?_)
    refine ⟨?_⟩
    refine wpList_load_cells rfl 38 _ rfl _ rfl [.int .i64 t.k,.string t.n,.int .i64 t.c.f0,.int .i64 t.c.f1,.int .i64 t.c.f2,.bool t.c.f3,.bool t.c.f4,.slice A7 t.c.f5.length c7,.bool t.e,.string t.fr,.slice A10 t.ns.length c10,.slice A11 t.mo.length c11,.slice A20 n20 c20,.slice A21 n21 c21,.slice A' y.length c'] (blk_cellsR H6.out) _ Tryz.underlying38 rfl (by kernel_rfl) ?_
    go_wp2_with (refine held_store _ _ _ rfl ?_)
    refine ⟨?_⟩
    refine wpList_store_off rfl rfl [.int .i64 t.k,.string t.n,.int .i64 t.c.f0,.int .i64 t.c.f1,.int .i64 t.c.f2,.bool t.c.f3,.bool t.c.f4,.slice A7 t.c.f5.length c7,.bool t.e,.string t.fr,.slice A10 t.ns.length c10,.slice A11 t.mo.length c11,.slice A20 n20 c20,.slice A21 n21 c21,.slice A' y.length c'] rfl rfl rfl (by kernel_rfl) (by simp [Value.oneCell']) (five H6.out) (by simp) (new := #[.int .i64 t.k,.string t.n,.int .i64 t.c.f0,.int .i64 t.c.f1,.int .i64 t.c.f2,.bool t.c.f3,.bool t.c.f4,.slice A7 t.c.f5.length c7,.bool t.e,.string t.fr,.slice A10 t.ns.length c10,.slice A11 t.mo.length c11,.slice A20 n20 c20,.slice A21 n21 c21,.slice A' y.length c']) rfl ?_
    intro wz hz
    have HZ := Lib.hid hz
    clear hz
    go_wp2
    refine bodyPost_ret (v := .tuple #[.agg #[.int .i64 t.k,.string t.n,.int .i64 t.c.f0,.int .i64 t.c.f1,.int .i64 t.c.f2,.bool t.c.f3,.bool t.c.f4,.slice A7 t.c.f5.length c7,.bool t.e,.string t.fr,.slice A10 t.ns.length c10,.slice A11 t.mo.length c11,.slice A20 n20 c20,.slice A21 n21 c21,.slice A' y.length c'],.bool true]) (results_row_tmp Tryz.results21 _ _ (g + 2) _ _ (0,0) _ rfl HZ.out.block Tryz.underlying38 rfl (by kernel_rfl) rfl) rfl ⟨[.int .i64 t.k,.string t.n,.int .i64 t.c.f0,.int .i64 t.c.f1,.int .i64 t.c.f2,.bool t.c.f3,.bool t.c.f4,.slice A7 t.c.f5.length c7,.bool t.e,.string t.fr,.slice A10 t.ns.length c10,.slice A11 t.mo.length c11,.slice A20 n20 c20,.slice A21 n21 c21,.slice A' y.length c'],rfl,by simp [Value.oneCell'],by rw [HT.out]; rfl, ?_⟩
    refine Vw.map (Vw.join (Vw.join (Vw.row (d := kTy) (l := y) (by decide) rfl HZ.out.drop.drop).two.drop)) fun wv hb hp r hr => ?_
    rw [HT.out] at hr
    cases hr
    obtain ⟨⟨⟨A2,c2,e,h1, -,h2⟩,hA⟩,hP⟩ := hp
    simp only [Value.slice.injEq] at e
    obtain ⟨rfl, -,rfl⟩ := e
    obtain ⟨e20,l20,g20⟩ := hP _ HQ20.out
    obtain ⟨e21,l21,g21⟩ := hA _ HQ21.out
    rw [e20,e21]
    exact kTy_mk wv ⟨t.k,t.n,t.c,t.e,t.fr,t.ns,t.mo,ps1,ad1,y⟩ HL.out.1 (Kd.C_below HC.out.1 hb) HL.out.2.1 (Kd.C_below HC.out.2.1 hb) HL.out.2.2 (Kd.C_below HC.out.2.2.1 hb) l20 g20 l21 g21 h1 h2
theorem named_at (m : Md) (mc : List Value) (hmc : kMd.K w0 m mc) (om : oS m.n) (oi : ∀ x ∈ m.im,oS x.f1) (n : Nat) : NmAt w0 m mc n := by
 induction n with
 | zero => intro W Q t cs _ _ _ hs; cases hs
 | succ n ih =>
  intro W Q t cs h hK ho hs
  by_cases hk : t.k = 11
  ·exact named_ref m mc hmc om oi n t cs h hK ho hk
  ·exact named_other m mc hmc n ih t cs h hK ho hs hk
end Go.Proofs.YtbjddomocggjmaaGreat.Sc
