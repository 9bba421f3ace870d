/- Stores into a block known whole, loads of a struct whose cells are known: at the operation. -/
import Derived.Laws.ResultCell
import Derived.Test.YtbjddomocggjmaaGreatLO
import Derived.Test.YtbjddomocggjmaaGreatLR
section
namespace Go.Proofs.YtbjddomocggjmaaGreat.Sc
open Go.RowKit Go.ChangeShapes Go.WideShapes Go.Proofs.YtbjddomocggjmaaGreat.Sep
open Go.Proofs.YtbjddomocggjmaaGreatW.PrintWords
variable {B : Nat} {w0 w : World} {R : HP}
theorem results_row_tmp {P : Program} {fn : Func} {p u : Tmp} {ty : TypeId} (h : fn.results = #[.cell p ty,.tmp u]) (tmps : Array Value) (w : World) (g : Nat) (t : TypeId) (cs : Array Value) (fr : Nat × Nat) (d : TypeDesc)
  (hp : tmps.getD p undef = .pointer (some ⟨g,0,none⟩)) (hg : w.heap[g]? = some (.cells cs t fr))
  (hu : P.underlying ty = some d) (hd : (match d with | .struct _ | .array _ _ => true | _ => false) = true) (hi : (P.info? ty).map (·.size) = some cs.size) {x : Value} (hx : tmps.getD u undef = x) :
  (results fn tmps).run P w = .ok (.tuple #[.agg cs,x]) w := by
 rw [results_cell_tmp h,hp,hx]
 simp [asAddr,run_loadVar_row w g t ty cs fr d hg hu hd hi]
set_option maxHeartbeats 16000000 in
set_option maxRecDepth 100000 in
theorem typ_ref (b : Nat) (ob : Option Nat) (fm : List (List UInt8 × ByteArray)) (n : Nat) (t : Ty) (cs : List Value) (h : S w0 w (MapV b (strM fm) • R)) (hK : kTy.K w0 t cs) (ho : oTy t) (hk : t.k = 11) :
 Calls Tryz.prog 16 #[.agg #[.map (some b),.map ob],.agg cs.toArray] w fun e w' => ∃ x : V15,e = .returned (.tuple #[.agg #[.int .i64 x.k,.string x.n,.int .i64 x.c0,.int .i64 x.c1,.int .i64 x.c2,.bool x.c3,.bool x.c4,.slice x.A7 x.n7 x.p7,.bool x.e,.string x.fr,.slice x.A10 x.n10 x.p10,.slice x.A11 x.n11 x.p11,.slice x.A12 x.n12 x.p12,.slice x.A13 x.n13 x.p13,.slice x.A14 x.n14 x.p14],.bool (typP (lookS fm) (n + 1) t).isSome]) ∧
  S w0 w' (Vw w0 w0.heap.size (fun W => ∀ r,typP (lookS fm) (n + 1) t = some r → kTy.K W r [.int .i64 x.k,.string x.n,.int .i64 x.c0,.int .i64 x.c1,.int .i64 x.c2,.bool x.c3,.bool x.c4,.slice x.A7 x.n7 x.p7,.bool x.e,.string x.fr,.slice x.A10 x.n10 x.p10,.slice x.A11 x.n11 x.p11,.slice x.A12 x.n12 x.p12,.slice x.A13 x.n13 x.p13,.slice x.A14 x.n14 x.p14]) • (MapV b (strM fm) • R)) := by
 have e11 : typP (lookS fm) (n + 1) t = (lookS fm t.n.data.toList).map fun s => ⟨t.k,s,t.c,t.e,t.fr,t.ns,t.mo,t.ps,t.ad,t.el⟩ := if_pos hk
 have hs : t.n.size ≤ maxLen := by have := (ho 1).2.1; simp only [oS,M] at this; simp only [maxLen]; omega
 obtain ⟨A7,c7,A10,c10,A11,c11,A12,c12,A13,c13,A14,c14,rfl,l7,g7,l10,g10,l11,g11,l12,g12,l13,g13,l14,g14⟩ := kTy_open hK
 have HC := Lib.hid (And.intro g7 (And.intro g10 (And.intro g11 (And.intro g12 (And.intro g13 g14)))))
 have HL := Lib.hid (And.intro l7 (And.intro l10 (And.intro l11 (And.intro l12 (And.intro l13 l14)))))
 show Calls Tryz.prog 16 #[.agg #[.map (some b),.map ob],.agg #[.int .i64 t.k,.string t.n,.int .i64 t.c.f0,.int .i64 t.c.f1,.int .i64 t.c.f2,.bool t.c.f3,.bool t.c.f4,.slice A7 t.c.f5.length c7,.bool t.e,.string t.fr,.slice A10 t.ns.length c10,.slice A11 t.mo.length c11,.slice A12 t.ps.length c12,.slice A13 t.ad.length c13,.slice A14 t.el.length c14]] w _
 have p1 : (t.k == 11) = true := beq_iff_eq.2 hk
 have p2 : decide (t.k = 11) = true := decide_eq_true hk
 generalize hg : w.heap.size = g
 have H0 := Lib.hid h
 have HK0 := Lib.hid hK
 have H := Lib.hid (alloc_at (n := g + 2) (alloc_at (n := g + 1) (alloc_at (n := g) h (.cells #[.map (some b),.map ob] 59) hg.symm) (.cells #[.int .i64 t.k,.string t.n,.int .i64 t.c.f0,.int .i64 t.c.f1,.int .i64 t.c.f2,.bool t.c.f3,.bool t.c.f4,.slice A7 t.c.f5.length c7,.bool t.e,.string t.fr,.slice A10 t.ns.length c10,.slice A11 t.mo.length c11,.slice A12 t.ps.length c12,.slice A13 t.ad.length c13,.slice A14 t.el.length c14] 38) (by simp [hg])) (.cells #[.int .i64 0,.string ⟨#[]⟩,.int .i64 0,.int .i64 0,.int .i64 0,.bool false,.bool false,.slice none 0 0,.bool false,.string ⟨#[]⟩,.slice none 0 0,.slice none 0 0,.slice none 0 0,.slice none 0 0,.slice none 0 0] 38) (by simp [hg]))
 have e0 := H.out.three.cell 0 rfl
 have d0 := H.out.two.cell 0 rfl
 have d1 := H.out.two.cell 1 rfl
 have d2 := H.out.two.cell 2 rfl
 have d3 := H.out.two.cell 3 rfl
 have d4 := H.out.two.cell 4 rfl
 have d5 := H.out.two.cell 5 rfl
 have d6 := H.out.two.cell 6 rfl
 have d7 := H.out.two.cell 7 rfl
 have d8 := H.out.two.cell 8 rfl
 have d9 := H.out.two.cell 9 rfl
 have d10 := H.out.two.cell 10 rfl
 have d11 := H.out.two.cell 11 rfl
 have d12 := H.out.two.cell 12 rfl
 have d13 := H.out.two.cell 13 rfl
 have d14 := H.out.two.cell 14 rfl
 have z0 := H.out.cell 0 rfl
 have z1 := H.out.cell 1 rfl
 have z2 := H.out.cell 2 rfl
 have z3 := H.out.cell 3 rfl
 have z4 := H.out.cell 4 rfl
 have z5 := H.out.cell 5 rfl
 have z6 := H.out.cell 6 rfl
 have z7 := H.out.cell 7 rfl
 have z8 := H.out.cell 8 rfl
 have z9 := H.out.cell 9 rfl
 have z10 := H.out.cell 10 rfl
 have z11 := H.out.cell 11 rfl
 have z12 := H.out.cell 12 rfl
 have z13 := H.out.cell 13 rfl
 have z14 := H.out.cell 14 rfl
 have f0 := H.out.free 0 (.inr (Nat.le_refl _))
 have f1 := H.out.free 1 (.inr (Nat.le_refl _))
 have f2 := H.out.free 2 (.inr (Nat.le_refl _))
 have f3 := H.out.free 3 (.inr (Nat.le_refl _))
 have f4 := H.out.free 4 (.inr (Nat.le_refl _))
 have f5 := H.out.free 5 (.inr (Nat.le_refl _))
 have f6 := H.out.free 6 (.inr (Nat.le_refl _))
 have f7 := H.out.free 7 (.inr (Nat.le_refl _))
 have f8 := H.out.free 8 (.inr (Nat.le_refl _))
 have f9 := H.out.free 9 (.inr (Nat.le_refl _))
 have f10 := H.out.free 10 (.inr (Nat.le_refl _))
 have f11 := H.out.free 11 (.inr (Nat.le_refl _))
 have f12 := H.out.free 12 (.inr (Nat.le_refl _))
 have f13 := H.out.free 13 (.inr (Nat.le_refl _))
 have f14 := H.out.free 14 (.inr (Nat.le_refl _))
 have fd1 := H.out.two.free 1 (.inr (Nat.le_refl _))
 have el := mv_lookOk Tryz.underlying56 (zero_str _) (four H.out) t.n hs
 rw [look_strM] at el
 clear hk h ho hs g7 g10 g11 g12 g13 g14 l7 l10 l11 l12 l13 l14
 rw [e11]
 clear e11
 cases hq : lookS fm t.n.data.toList with
 | none =>
  rw [hq] at el
  simp only [Option.map_none,Option.getD_none,Option.isSome_none] at el
  go_enter Tryz.func16,Tryz.ntmps16
  go_wp2
  have HR := Lib.hid (alloc_at (n := g + 1 + 1) (alloc_at (n := g + 1) (alloc_at (n := g) H0.out (.cells #[.map (some b),.map ob] 59) hg.symm) (.cells #[.int .i64 t.k,.string ByteArray.empty,.int .i64 t.c.f0,.int .i64 t.c.f1,.int .i64 t.c.f2,.bool t.c.f3,.bool t.c.f4,.slice A7 t.c.f5.length c7,.bool t.e,.string t.fr,.slice A10 t.ns.length c10,.slice A11 t.mo.length c11,.slice A12 t.ps.length c12,.slice A13 t.ad.length c13,.slice A14 t.el.length c14] 38) (by simp [hg])) (.cells #[.int .i64 t.k,.string ByteArray.empty,.int .i64 t.c.f0,.int .i64 t.c.f1,.int .i64 t.c.f2,.bool t.c.f3,.bool t.c.f4,.slice A7 t.c.f5.length c7,.bool t.e,.string t.fr,.slice A10 t.ns.length c10,.slice A11 t.mo.length c11,.slice A12 t.ps.length c12,.slice A13 t.ad.length c13,.slice A14 t.el.length c14] 38) (by simp [hg]))
  have H9 := Lib.hid (Vw.base (p := fun W => ∀ r,(none : Option Ty) = some r → kTy.K W r [.int .i64 t.k,.string ByteArray.empty,.int .i64 t.c.f0,.int .i64 t.c.f1,.int .i64 t.c.f2,.bool t.c.f3,.bool t.c.f4,.slice A7 t.c.f5.length c7,.bool t.e,.string t.fr,.slice A10 t.ns.length c10,.slice A11 t.mo.length c11,.slice A12 t.ps.length c12,.slice A13 t.ad.length c13,.slice A14 t.el.length c14]) HR.out.drop.drop.drop (fun wv _ r hr => by cases hr))
  refine bodyPost_ret (v := .tuple #[.agg #[.int .i64 t.k,.string ByteArray.empty,.int .i64 t.c.f0,.int .i64 t.c.f1,.int .i64 t.c.f2,.bool t.c.f3,.bool t.c.f4,.slice A7 t.c.f5.length c7,.bool t.e,.string t.fr,.slice A10 t.ns.length c10,.slice A11 t.mo.length c11,.slice A12 t.ps.length c12,.slice A13 t.ad.length c13,.slice A14 t.el.length c14],.bool false]) (results_row_tmp Tryz.results16 _ _ (g + 1 + 1) _ _ (0,0) _ rfl HR.out.block Tryz.underlying38 rfl (by kernel_rfl) rfl) rfl ⟨⟨t.k,ByteArray.empty,t.c.f0,t.c.f1,t.c.f2,t.c.f3,t.c.f4,A7,t.c.f5.length,c7,t.e,t.fr,A10,t.ns.length,c10,A11,t.mo.length,c11,A12,t.ps.length,c12,A13,t.ad.length,c13,A14,t.el.length,c14⟩,rfl,H9.out⟩
 | some s =>
  rw [hq] at el
  simp only [Option.map_some,Option.getD_some,Option.isSome_some] at el
  go_enter Tryz.func16,Tryz.ntmps16
  go_wp2
  have HR := Lib.hid (alloc_at (n := g + 1 + 1) (alloc_at (n := g + 1) (alloc_at (n := g) H0.out (.cells #[.map (some b),.map ob] 59) hg.symm) (.cells #[.int .i64 t.k,.string s,.int .i64 t.c.f0,.int .i64 t.c.f1,.int .i64 t.c.f2,.bool t.c.f3,.bool t.c.f4,.slice A7 t.c.f5.length c7,.bool t.e,.string t.fr,.slice A10 t.ns.length c10,.slice A11 t.mo.length c11,.slice A12 t.ps.length c12,.slice A13 t.ad.length c13,.slice A14 t.el.length c14] 38) (by simp [hg])) (.cells #[.int .i64 t.k,.string s,.int .i64 t.c.f0,.int .i64 t.c.f1,.int .i64 t.c.f2,.bool t.c.f3,.bool t.c.f4,.slice A7 t.c.f5.length c7,.bool t.e,.string t.fr,.slice A10 t.ns.length c10,.slice A11 t.mo.length c11,.slice A12 t.ps.length c12,.slice A13 t.ad.length c13,.slice A14 t.el.length c14] 38) (by simp [hg]))
  have H9 := Lib.hid (Vw.base (p := fun W => ∀ r,some (⟨t.k,s,t.c,t.e,t.fr,t.ns,t.mo,t.ps,t.ad,t.el⟩ : Ty) = some r → kTy.K W r [.int .i64 t.k,.string s,.int .i64 t.c.f0,.int .i64 t.c.f1,.int .i64 t.c.f2,.bool t.c.f3,.bool t.c.f4,.slice A7 t.c.f5.length c7,.bool t.e,.string t.fr,.slice A10 t.ns.length c10,.slice A11 t.mo.length c11,.slice A12 t.ps.length c12,.slice A13 t.ad.length c13,.slice A14 t.el.length c14]) HR.out.drop.drop.drop (fun wv hb r hr => by
   cases hr
   obtain ⟨g7,g10,g11,g12,g13,g14⟩ := HC.out
   obtain ⟨l7,l10,l11,l12,l13,l14⟩ := HL.out
   exact kTy_mk wv ⟨t.k,s,t.c,t.e,t.fr,t.ns,t.mo,t.ps,t.ad,t.el⟩ l7 (Kd.C_below g7 hb) l10 (Kd.C_below g10 hb) l11 (Kd.C_below g11 hb) l12 (Kd.C_below g12 hb) l13 (Kd.C_below g13 hb) l14 (Kd.C_below g14 hb)))
  refine bodyPost_ret (v := .tuple #[.agg #[.int .i64 t.k,.string s,.int .i64 t.c.f0,.int .i64 t.c.f1,.int .i64 t.c.f2,.bool t.c.f3,.bool t.c.f4,.slice A7 t.c.f5.length c7,.bool t.e,.string t.fr,.slice A10 t.ns.length c10,.slice A11 t.mo.length c11,.slice A12 t.ps.length c12,.slice A13 t.ad.length c13,.slice A14 t.el.length c14],.bool true]) (results_row_tmp Tryz.results16 _ _ (g + 1 + 1) _ _ (0,0) _ rfl HR.out.block Tryz.underlying38 rfl (by kernel_rfl) rfl) rfl ⟨⟨t.k,s,t.c.f0,t.c.f1,t.c.f2,t.c.f3,t.c.f4,A7,t.c.f5.length,c7,t.e,t.fr,A10,t.ns.length,c10,A11,t.mo.length,c11,A12,t.ps.length,c12,A13,t.ad.length,c13,A14,t.el.length,c14⟩,rfl,H9.out⟩
end Go.Proofs.YtbjddomocggjmaaGreat.Sc
end
section
namespace Go.Proofs.YtbjddomocggjmaaGreat.Sc
open Go.RowKit Go.ChangeShapes Go.WideShapes Go.Proofs.YtbjddomocggjmaaGreat.Sep
open Go.Proofs.YtbjddomocggjmaaGreatW.PrintWords
variable {B : Nat} {w0 w : World} {R : HP}
section
variable {A C D E F G I : HP}
theorem seven (h : St B w0 w (A • (C • (D • (E • (F • (G • (I • R)))))))) : St B w0 w (I • (A • (C • (D • (E • (F • (G • R))))))) := (six h.assoc').two.assoc.three
end
theorem store_off {P : Program} {ty : TypeId} {val : Value} {cs : List Value} (hval : val.cells = cs.toArray) (hi : (P.info? ty).map (·.size) = some cs.length) (h1 : ∀ u ∈ cs,u.oneCell' = true) {e : TypeId} {g : Nat} {cur : Array Value} (o : Nat)
  (h : St B w0 w (Blk g (.cells cur e (0,0)) • R)) (ho : o + cs.length ≤ cur.size) {new : Array Value} (hnew : (cur.toList.take o ++ cs ++ cur.toList.drop (o + cs.length)).toArray = new) :
  ∃ w',(Instr.storeAt ty (.pointer (some ⟨g,o,none⟩)) val).run P w = .ok () w' ∧ St B w0 w' (Blk g (.cells new e (0,0)) • R) := by
 subst hnew
 have hst := run_storeCells_off (P := P) g o 0 0 e cs 0 cur w h.block (by omega) (.inr (Nat.le_refl _)) h1
 simp only [Nat.add_zero] at hst
 refine ⟨w.setRow g (cur.toList.take o ++ cs ++ cur.toList.drop (o + cs.length)).toArray, ?_,h.step (by simp [World.setRow]) rfl rfl rfl fun F hF ⟨hf,hb'⟩ => ⟨fun k hk hn => setRow_other w g k _ (fun e => hn (by subst e; exact hf)),F,fun b hb => .inl hb,hf,setRow_heap w g cur _ e _ hb'⟩⟩
 cases hq : P.info? ty with
 | none => simp [hq] at hi
 | some i =>
  have hsz : cs.length = i.size := by simp [hq] at hi; omega
  simp [Instr.storeAt,Instr.sureAddr,storeVar,sizeOf,typeInfo,hq,hval,hst]
  exact hsz
theorem wp_store_off {P : Program} {o : Oper} {a : Act} {K : Act → World → Prop} {Q : Exit → Act → World → Prop} {ty : TypeId} {x y : Operand} (ho : o.op = .store ty x y)
  (cs : List Value) {g off : Nat} (hx : a.eval x = .pointer (some ⟨g,off,none⟩)) {val : Value} (hy : a.eval y = val) (hval : val.cells = cs.toArray) (hi : (P.info? ty).map (·.size) = some cs.length) (h1 : ∀ u ∈ cs,u.oneCell' = true)
  {e : TypeId} {cur : Array Value} (h : St B w0 w (Blk g (.cells cur e (0,0)) • R)) (hc : off + cs.length ≤ cur.size) {new : Array Value} (hnew : (cur.toList.take off ++ cs ++ cur.toList.drop (off + cs.length)).toArray = new)
  (hK : ∀ w',St B w0 w' (Blk g (.cells new e (0,0)) • R) → K (a.put o.dst undef) w') : Oper.wp P o a w K Q := by
 obtain ⟨w',hrun,hst⟩ := store_off (P := P) hval hi h1 off h hc hnew
 unfold Oper.wp execOp
 simp only [ho,hx,hy,Sem.run_bind,hrun,Result.andThen_ok,Sem.run_pure]
 exact hK w' hst
theorem step_store_off {P : Program} {ops : Array Oper} {o : Oper} {a : Act} {K : Act → World → Prop} {Q : Exit → Act → World → Prop} {X : Prop} (hw : Region.wanted o (yielded ops a.tmps) = true) {ty : TypeId} {x y : Operand} (ho : o.op = .store ty x y)
  (cs : List Value) {g off : Nat} (hx : a.eval x = .pointer (some ⟨g,off,none⟩)) {val : Value} (hy : a.eval y = val) (hval : val.cells = cs.toArray) (hi : (P.info? ty).map (·.size) = some cs.length) (h1 : ∀ u ∈ cs,u.oneCell' = true)
  {e : TypeId} {cur : Array Value} (h : St B w0 w (Blk g (.cells cur e (0,0)) • R)) (hc : off + cs.length ≤ cur.size) {new : Array Value} (hnew : (cur.toList.take off ++ cs ++ cur.toList.drop (off + cs.length)).toArray = new)
  (hK : ∀ w',St B w0 w' (Blk g (.cells new e (0,0)) • R) → K (a.put o.dst undef) w') : if Region.wanted o (yielded ops a.tmps) = true then Oper.wp P o a w K Q else X := by
 rw [if_pos hw]
 exact wp_store_off ho cs hx hy hval hi h1 h hc hnew hK
theorem wpList_store_off {P : Program} {ops : Array Oper} {rest : List Oper} {o : Oper} {a : Act} {Q : Exit → Act → World → Prop} (hg : o.guard = none) {ty : TypeId} {x y : Operand} (ho : o.op = .store ty x y)
  (cs : List Value) {g off : Nat} (hx : a.eval x = .pointer (some ⟨g,off,none⟩)) {val : Value} (hy : a.eval y = val) (hval : val.cells = cs.toArray) (hi : (P.info? ty).map (·.size) = some cs.length) (h1 : ∀ u ∈ cs,u.oneCell' = true)
  {e : TypeId} {cur : Array Value} (h : St B w0 w (Blk g (.cells cur e (0,0)) • R)) (hc : off + cs.length ≤ cur.size) {new : Array Value} (hnew : (cur.toList.take off ++ cs ++ cur.toList.drop (off + cs.length)).toArray = new)
  (hK : ∀ w',St B w0 w' (Blk g (.cells new e (0,0)) • R) → wpList P ops Q rest (a.put o.dst undef) w') : wpList P ops Q (o :: rest) a w :=
 wpList_plain hg fun _ hK' => wp_store_off ho cs hx hy hval hi h1 h hc hnew fun w' h' => hK' _ _ (hK w' h')
theorem wpList_store_row {P : Program} {ops : Array Oper} {rest : List Oper} {o : Oper} {a : Act} {Q : Exit → Act → World → Prop} (hg : o.guard = none) {ty : TypeId} {x y : Operand} (ho : o.op = .store ty x y)
  (cs : List Value) {g off : Nat} (hx : a.eval x = .pointer (some ⟨g,off,none⟩)) {val : Value} (hy : a.eval y = val) (hval : val.cells = cs.toArray) (hi : (P.info? ty).map (·.size) = some cs.length) (h1 : ∀ u ∈ cs,u.oneCell' = true)
  {e : TypeId} {size n cap : Nat} {xs : List Value} (h : St B w0 w (RowV e size (.slice (some ⟨g,0,none⟩) n cap) n xs • R)) (hc : off + cs.length ≤ n * size)
  (hK : ∀ w',St B w0 w' (RowV e size (.slice (some ⟨g,0,none⟩) n cap) n (xs.take off ++ cs ++ xs.drop (off + cs.length)) • R) → wpList P ops Q rest (a.put o.dst undef) w') : wpList P ops Q (o :: rest) a w := by
 refine wpList_plain hg fun K hK' => ?_
 obtain ⟨w',hrun,hst⟩ := store_row (P := P) hval hi h1 h off hc
 unfold Oper.wp execOp
 simp only [ho,hx,hy,Sem.run_bind,hrun,Result.andThen_ok,Sem.run_pure]
 exact hK' _ _ (hK w' hst)
theorem run_loadVar_cells {P : Program} (w : World) (ad : Addr) (ty : TypeId) (cs : List Value) (d : TypeDesc) (hc : ∀ j v,cs[j]? = some v → w.cell? (ad.add j) = some v)
  (hu : P.underlying ty = some d) (hd : (match d with | .struct _ | .array _ _ => true | _ => false) = true) (hi : (P.info? ty).map (·.size) = some cs.length) :
  (loadVar ty ad).run P w = .ok (.agg cs.toArray) w := by
 have hl : (loadCells ad cs.length).run P w = .ok cs.toArray w := run_loadCells_list (P := P) w ad cs hc
 cases hq : P.info? ty with
 | none => simp [hq] at hi
 | some i =>
  have hs : i.size = cs.length := by simpa [hq] using hi
  have hagg : (isAgg ty).run P w = .ok true w := by
   unfold isAgg
   rw [Sem.run_bind,run_underlying hu w]
   cases d <;> simp_all
  simp [loadVar,Sem.run_bind,hagg,sizeOf,typeInfo,hq,hs,hl]
theorem wpList_load_cells {P : Program} {ops : Array Oper} {rest : List Oper} {o : Oper} {a : Act} {w : World} {Q : Exit → Act → World → Prop} (hgd : o.guard = none) (ty : TypeId) (x : Operand) (ho : o.op = .load ty x)
  (ad : Addr) (hx : a.eval x = .pointer (some ad)) (cs : List Value) (hc : ∀ j v,cs[j]? = some v → w.cell? (ad.add j) = some v) (d : TypeDesc)
  (hu : P.underlying ty = some d) (hd : (match d with | .struct _ | .array _ _ => true | _ => false) = true) (hi : (P.info? ty).map (·.size) = some cs.length)
  (h : wpList P ops Q rest (a.put o.dst (.agg cs.toArray)) w) : wpList P ops Q (o :: rest) a w := by
 refine wpList_plain hgd fun _ hK => ?_
 unfold Oper.wp execOp
 simp only [ho,hx,Instr.loadAt,Instr.sureAddr,Sem.run_bind,Sem.run_pure,Result.andThen_ok,run_loadVar_cells w ad ty cs d hc hu hd hi]
 exact hK _ _ h
theorem wpList_append_blk {P : Program} {ops : Array Oper} {rest : List Oper} {o : Oper} {a : Act} {Q : Exit → Act → World → Prop} (hw : Region.wanted o (yielded ops a.tmps) = true) (s x : Operand) {t e : TypeId} (ht : P.underlying t = some (.slice e)) {z : Value} {size bytes : Nat}
  (hi : (P.info? e).map (fun i => (i.zero,i.size,i.bytes)) = some (some z,size,bytes)) (hzs : z.cells.size = size) (hsz : 0 < size)
  (ho : o.op = .call { callee := .builtin .append,args := #[s,x],argTypes := #[t,t] }) (v : Value) (n : Nat) (xs : List Value)
  (hs : a.eval s = v) {g c : Nat} {cs : List Value} {e2 : TypeId} {fr : Nat × Nat} (h : St B w0 w (Blk g (.cells cs.toArray e2 fr) • (RowV e size v n xs • R))) (hx : a.eval x = .slice (some ⟨g,0,none⟩) 1 c) (hl : cs.length = size) (h1 : ∀ u ∈ cs,u.oneCell' = true) (h63 : n + 1 ≤ maxLen) (hb : (n + 1) * bytes ≤ 140737488355328)
  (hK : ∀ v' w',St B w0 w' (RowV e size v' (n + 1) (xs ++ cs) • (Blk g (.cells cs.toArray e2 fr) • R)) → wpList P ops Q rest (a.put o.dst v') w') : wpList P ops Q (o :: rest) a w :=
 wpList_append hw s x ht hi hzs hsz ho v n xs hs h.two hx (by rw [Nat.one_mul]; exact hl) (fun j u hu => ⟨_,rfl,by rw [Sep.add_plain]; exact h.cell j (by simpa using hu)⟩) h1 h63 hb hK
theorem add_add1 (ad : Addr) (m j : Nat) : (ad.add m).add j = ad.add (m + j) := by
 rcases Nat.eq_zero_or_pos j with rfl | hj
 ·rw [add_zero1,Nat.add_zero]
 ·rw [add_field ad m j hj,add_field1 _ j hj]
theorem elem_cells {W W' : World} {ad : Addr} {o : Nat} {cs : List Value} (hb : Below W.heap.size W W') (h : ∀ j u,cs[j]? = some u → W.cell? (ad.add (o + j)) = some u) : ∀ j v,cs[j]? = some v → W'.cell? ((ad.add o).add j) = some v := fun j v hv => by
 rw [add_add1]
 exact pw_cell_below hb (h j v hv)
theorem fill_all {cs : List Value} {cur : Array Value} (h : cs.length = cur.size) : (cur.toList.take 0 ++ cs ++ cur.toList.drop (0 + cs.length)).toArray = cs.toArray := by
 rw [List.take_zero,List.nil_append,List.drop_of_length_le (by rw [Array.length_toList]; omega),List.append_nil]
theorem held_store {P : Program} {ops : Array Oper} {rest : List Oper} {o : Oper} {a : Act} {Q : Exit → Act → World → Prop} (ty : TypeId) (x y : Operand) (_ : o.op = .store ty x y) (h : Held (wpList P ops Q (o :: rest) a w)) : wpList P ops Q (o :: rest) a w := h.out
theorem held_load {P : Program} {ops : Array Oper} {rest : List Oper} {o : Oper} {a : Act} {Q : Exit → Act → World → Prop} (ty : TypeId) (x : Operand) (_ : o.op = .load ty x) (h : Held (wpList P ops Q (o :: rest) a w)) : wpList P ops Q (o :: rest) a w := h.out
end Go.Proofs.YtbjddomocggjmaaGreat.Sc
end
