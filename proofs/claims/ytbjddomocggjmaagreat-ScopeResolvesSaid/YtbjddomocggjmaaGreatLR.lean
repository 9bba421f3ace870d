/- parts of scope: walked. -/
import Derived.Test.YtbjddomocggjmaaGreatLQ
namespace Go.Proofs.YtbjddomocggjmaaGreat.Sc
open Go.RowKit Go.ChangeShapes Go.WideShapes Go.Proofs.YtbjddomocggjmaaGreat.Sep
open Go.Proofs.YtbjddomocggjmaaGreatW.PrintWords
variable {B : Nat} {w0 w : World} {R : HP}
structure V15 where
 k : Int
 n : ByteArray
 c0 : Int
 c1 : Int
 c2 : Int
 c3 : Bool
 c4 : Bool
 A7 : Option Addr
 n7 : Nat
 p7 : Nat
 e : Bool
 fr : ByteArray
 A10 : Option Addr
 n10 : Nat
 p10 : Nat
 A11 : Option Addr
 n11 : Nat
 p11 : Nat
 A12 : Option Addr
 n12 : Nat
 p12 : Nat
 A13 : Option Addr
 n13 : Nat
 p13 : Nat
 A14 : Option Addr
 n14 : Nat
 p14 : Nat
abbrev strM (fm : List (List UInt8 × ByteArray)) : Kv := fm.map fun p => (p.1,.string p.2)
def lookS (fm : List (List UInt8 × ByteArray)) (k : List UInt8) : Option ByteArray := (fm.reverse.find? fun p => p.1 == k).map (·.2)
theorem look_strM (fm : List (List UInt8 × ByteArray)) (k : List UInt8) : lookK (strM fm) k = (lookS fm k).map .string := by
 unfold lookK lookS strM
 rw [← List.map_reverse,List.find?_map,Option.map_map,Option.map_map]
 rfl
section
variable {A C D E F G : HP}
theorem four (h : St B w0 w (A • (C • (D • (E • R))))) : St B w0 w (E • (A • (C • (D • R)))) := h.assoc'.three.two.assoc.three
theorem five (h : St B w0 w (A • (C • (D • (E • (F • R)))))) : St B w0 w (F • (A • (C • (D • (E • R))))) := (four h.assoc').two.assoc.three
theorem six (h : St B w0 w (A • (C • (D • (E • (F • (G • R))))))) : St B w0 w (G • (A • (C • (D • (E • (F • R)))))) := (five h.assoc').two.assoc.three
end
theorem store_blk {P : Program} {ty : TypeId} {val : Value} {cs : List Value} (hval : val.cells = cs.toArray) (hi : (P.info? ty).map (·.size) = some cs.length) (h1 : ∀ u ∈ cs,u.oneCell' = true) {e : TypeId} {g : Nat} {cur : Array Value}
  (h : St B w0 w (Blk g (.cells cur e (0,0)) • R)) (hc : cur.size = cs.length) :
  ∃ w',(Instr.storeAt ty (.pointer (some ⟨g,0,none⟩)) val).run P w = .ok () w' ∧ St B w0 w' (Blk g (.cells cs.toArray e (0,0)) • R) := by
 have hst := run_storeCells_off (P := P) g 0 0 0 e cs 0 cur w h.block (by omega) (.inr (Nat.le_refl _)) h1
 simp only [Nat.add_zero] at hst
 have e1 : cur.toList.take 0 ++ cs ++ cur.toList.drop (0 + cs.length) = cs := by
  rw [List.take_zero,List.nil_append,List.drop_of_length_le (by rw [Array.length_toList]; omega),List.append_nil]
 simp only [Nat.zero_add] at e1 hst
 rw [e1] at hst
 refine ⟨w.setRow g cs.toArray, ?_,h.step (by simp [World.setRow]) rfl rfl rfl fun F hF ⟨hf,hb'⟩ => ⟨fun k hk hn => setRow_other w g k _ (fun e => hn (by subst e; exact hf)),F,fun b hb => .inl hb,hf,setRow_heap w g cur _ e _ hb'⟩⟩
 cases hq : P.info? ty with
 | none => simp [hq] at hi
 | some i =>
  have hsz : cs.length = i.size := by simp [hq] at hi; omega
  simp [Instr.storeAt,Instr.sureAddr,storeVar,sizeOf,typeInfo,hq,hval,hst]
  exact hsz
theorem step_store_blk {P : Program} {ops : Array Oper} {o : Oper} {a : Act} {K : Act → World → Prop} {Q : Exit → Act → World → Prop} {X : Prop} (hw : Region.wanted o (yielded ops a.tmps) = true) {ty : TypeId} {x y : Operand} (ho : o.op = .store ty x y)
  (cs : List Value) {g : Nat} (hx : a.eval x = .pointer (some ⟨g,0,none⟩)) {val : Value} (hy : a.eval y = val) (hval : val.cells = cs.toArray) (hi : (P.info? ty).map (·.size) = some cs.length) (h1 : ∀ u ∈ cs,u.oneCell' = true)
  {e : TypeId} {cur : Array Value} (h : St B w0 w (Blk g (.cells cur e (0,0)) • R)) (hc : cur.size = cs.length)
  (hK : ∀ w',St B w0 w' (Blk g (.cells cs.toArray e (0,0)) • R) → K (a.put o.dst undef) w') : if Region.wanted o (yielded ops a.tmps) = true then Oper.wp P o a w K Q else X := by
 rw [if_pos hw]
 obtain ⟨w',hrun,hst⟩ := store_blk (P := P) hval hi h1 h hc
 unfold Oper.wp execOp
 simp only [ho,hx,hy,Sem.run_bind,hrun,Result.andThen_ok,Sem.run_pure]
 exact hK w' hst
def TypAt (w0 : World) (b : Nat) (ob : Option Nat) (fm : List (List UInt8 × ByteArray)) (n : Nat) : Prop := ∀ (W : World) (Q : HP) (t : Ty) (cs : List Value),S w0 W (MapV b (strM fm) • Q) → kTy.K w0 t cs → oTy t → shapedB n t = true →
 Calls Tryz.prog 16 #[.agg #[.map (some b),.map ob],.agg cs.toArray] W fun e w' => ∃ x : V15,e = .returned (.tuple #[.agg #[.int .i64 x.k,.string x.n,.int .i64 x.c0,.int .i64 x.c1,.int .i64 x.c2,.bool x.c3,.bool x.c4,.slice x.A7 x.n7 x.p7,.bool x.e,.string x.fr,.slice x.A10 x.n10 x.p10,.slice x.A11 x.n11 x.p11,.slice x.A12 x.n12 x.p12,.slice x.A13 x.n13 x.p13,.slice x.A14 x.n14 x.p14],.bool (typP (lookS fm) n t).isSome]) ∧
  S w0 w' (Vw w0 w0.heap.size (fun W => ∀ r,typP (lookS fm) n t = some r → kTy.K W r [.int .i64 x.k,.string x.n,.int .i64 x.c0,.int .i64 x.c1,.int .i64 x.c2,.bool x.c3,.bool x.c4,.slice x.A7 x.n7 x.p7,.bool x.e,.string x.fr,.slice x.A10 x.n10 x.p10,.slice x.A11 x.n11 x.p11,.slice x.A12 x.n12 x.p12,.slice x.A13 x.n13 x.p13,.slice x.A14 x.n14 x.p14]) • (MapV b (strM fm) • Q))
def xk2 (xk ts : List Value) (o : Nat) (c : Value) : List Value := (xk.take (o + 1) ++ ts ++ xk.drop (o + 1 + ts.length)).take (o + 17) ++ [c] ++ (xk.take (o + 1) ++ ts ++ xk.drop (o + 1 + ts.length)).drop (o + 17 + [c].length)
section
variable {W : World} {l y : List (Pt Ty)} {xs xk ts : List Value} {j : Nat} {r : Pt Ty} {A18 : Option Addr} {p18 : Nat}
theorem xk2_eq (hR : Reps (kPt.K w0) 18 l xs) (hG : l[j]? = some r) (hl : xk.length = l.length * 18) (hT : xk.drop (j * 18) = xs.drop (j * 18)) (ht : ts.length = 15) (c : Value) : xk2 xk ts (j * 18) c = xk.take (j * 18) ++ ([.string r.n] ++ (ts ++ [.bool r.o,c])) ++ xk.drop (j * 18 + 18) := by
 have hj := (List.getElem?_eq_some_iff.1 hG).1
 have hle : j * 18 + 18 ≤ xk.length := by omega
 have hK := hR.2 j r hG
 rw [← hT] at hK
 obtain ⟨ts',A',c',e,hT', -⟩ := kPt_open hK
 obtain ⟨A7,c7,A10,c10,A11,c11,A12,c12,A13,c13,A14,c14,rfl, -⟩ := kTy_open hT'
 have hat : ∀ (i : Nat) (u : Value),i < 18 → ((xk.drop (j * 18)).take 18)[i]? = some u → xk[j * 18 + i]? = some u := fun i u hi hu => by
  rwa [List.getElem?_take,if_pos hi,List.getElem?_drop] at hu
 exact two_stores hle ht (hat 0 _ (by omega) (by rw [e]; rfl)) (hat 16 _ (by omega) (by rw [e]; rfl))
theorem part_set (hR : Reps (kPt.K w0) 18 l xs) (hG : l[j]? = some r) (hl : xk.length = l.length * 18) (hT : xk.drop (j * 18) = xs.drop (j * 18)) (hy : y.length = j) (hold : Reps (kPt.K W) 18 (y ++ l.drop j) xk) {t1 : Ty} (h1 : kTy.K W t1 ts) (hA : r.d.length ≤ p18) (hC : kVal.C W A18 r.d.length r.d) :
  Reps (kPt.K W) 18 ((y ++ [⟨r.n,t1,r.o,r.d⟩]) ++ l.drop (j + 1)) (xk2 xk ts (j * 18) (.slice A18 r.d.length p18)) := by
 have hj := (List.getElem?_eq_some_iff.1 hG).1
 have ht : ts.length = 15 := by
  obtain ⟨A7,c7,A10,c10,A11,c11,A12,c12,A13,c13,A14,c14,rfl, -⟩ := kTy_open h1
  rfl
 rw [xk2_eq hR hG hl hT ht, ← set_next _ hy hG]
 have h := reps_put hold (j := j) (by rw [List.length_append,List.length_drop]; omega) (kPt_mk W ⟨r.n,t1,r.o,r.d⟩ h1 hA hC) (by simp [ht])
 have e18 : ([Value.string r.n] ++ (ts ++ [Value.bool r.o,Value.slice A18 r.d.length p18])).length = 18 := by simp [ht]
 rw [e18] at h
 exact h
theorem part_behind (hR : Reps (kPt.K w0) 18 l xs) (hG : l[j]? = some r) (hl : xk.length = l.length * 18) (hT : xk.drop (j * 18) = xs.drop (j * 18)) (ht : ts.length = 15) (c : Value) : (xk2 xk ts (j * 18) c).drop ((j + 1) * 18) = xs.drop ((j + 1) * 18) := by
 have hj := (List.getElem?_eq_some_iff.1 hG).1
 rw [xk2_eq hR hG hl hT ht]
 have e18 : ([Value.string r.n] ++ (ts ++ [Value.bool r.o,c])).length = 18 := by simp [ht]
 have h := set_behind (cs := [Value.string r.n] ++ (ts ++ [.bool r.o,c])) hT e18 (by omega)
 rw [e18] at h
 exact h
end
set_option maxHeartbeats 16000000 in
set_option maxRecDepth 100000 in
theorem parts_calls (b : Nat) (ob : Option Nat) (fm : List (List UInt8 × ByteArray)) (n : Nat) (ih : TypAt w0 b ob fm n) (A : Option Addr) (c : Nat) (l : List (Pt Ty)) (h : S w0 w (MapV b (strM fm) • R)) (hC : kPt.C w0 A l.length l) (ho : ∀ p ∈ l,oPt oTy p)
  (hl : l.length ≤ 256) (hs : ∀ p ∈ l,shapedB n p.t = true ∧ p.d.length ≤ 1) :
  Calls Tryz.prog 38 #[.agg #[.map (some b),.map ob],.slice A l.length c] w fun e w' => ∃ A' n' c',e = .returned (.tuple #[.slice A' n' c',.bool (partsP (typP (lookS fm) n) l).isSome]) ∧
   S w0 w' (Vw w0 w0.heap.size (fun W => ∀ r,partsP (typP (lookS fm) n) l = some r → n' = r.length ∧ r.length ≤ c' ∧ kPt.C W A' r.length r) • (MapV b (strM fm) • R)) := by
 have hl' : l.length ≤ 9223372036854775807 := by omega
 have HA := Lib.hid (And.intro hC (And.intro ho (And.intro hs ih)))
 generalize hg : w.heap.size = g
 have H := Lib.hid (alloc_at (n := g) h (.cells #[.map (some b),.map ob] 59) hg.symm)
 clear h hC ho hs ih
 go_enter Tryz.func38,Tryz.ntmps38
 go_wp2_with fail
 refine (clone_pts A c l H.out HA.out.1 (by simp only [M]; omega)).mono ?_
 rintro e w1 ⟨v1,xs,rfl,hR,h1⟩
 have hv : ∃ B1 p1,v1 = .slice B1 l.length p1 ∧ l.length ≤ p1 := by
  obtain ⟨-,B1,p1,e,hle, -⟩ := h1.reads
  exact ⟨B1,p1,e,hle⟩
 obtain ⟨B1,p1,rfl,hp1⟩ := hv
 have HX := Lib.hid hR
 have HX2 := Lib.hid ((Vw.base h1 (p := fun W => Reps (kPt.K W) 18 l xs) fun wv hb => HX.out.imp_ fun _ _ hp => kPt.K_below hb hp).two)
 clear h1 hR
 go_wp2_with fail
 clear H
 go_loopw [14] (fun v wr => ∃ (x : Int) (xk : List Value) (y : List (Pt Ty)),0 ≤ x ∧ x ≤ l.length ∧ v = .int .i64 x ∧ Hid (S w0 wr (RowV 83 18 (.slice B1 l.length p1) l.length xk • (Vw w0 w0.heap.size (fun W => Reps (kPt.K W) 18 (y ++ l.drop x.toNat) xk) • (Blk g (.cells #[.map (some b),.map ob] 59) • (MapV b (strM fm) • R))))) ∧ Hid (mapO (partP (typP (lookS fm) n)) (l.take x.toNat) = some y) ∧ Hid (xk.drop (x.toNat * 18) = xs.drop (x.toNat * 18))) (fun v _ => l.length - (intOf v).toNat)
 case atStart => exact ⟨0,xs,[],Int.le_refl _,by omega,rfl,HX2,Lib.hid rfl,Lib.hid rfl⟩
 case round =>
  clear HX2
  obtain ⟨x,xk,y,hx0,hx1,rfl,HR,HY,HT⟩ := hrel
  by_cases hlt : x < l.length
  ·rcases HR.out.rowForm with ⟨eB,hz, -⟩ | ⟨g1,cap1, -, -, -,eB, -⟩
   ·exact absurd hz (by omega)
   cases eB
   obtain ⟨ad,cs,eA,hcl0,hK,hcell0⟩ := Kd.C_get HA.out.1 zPt x hx0 hlt
   have hcell : ∀ (j : Nat) (u : Value),cs[j]? = some u → w0.cell? (ad.add (x.toNat * 18 + j)) = some u := hcell0
   have HG := Lib.hid (getD_mem l zPt x hx0 hlt)
   generalize l.getD x.toNat zPt = r at *
   have hrm := List.mem_of_getElem? HG.out
   obtain ⟨ts,A17,c17,rfl,hTy,ld,gd⟩ := kPt_open hK
   have HK := Lib.hid (And.intro hTy (And.intro ld gd))
   obtain ⟨A7,c7,A10,c10,A11,c11,A12,c12,A13,c13,A14,c14,rfl, -⟩ := kTy_open hTy
   have hf : ∀ W,Below w0.heap.size w0 W → ∀ (j : Nat) (u : Value),([.string r.n,.int .i64 r.t.k,.string r.t.n,.int .i64 r.t.c.f0,.int .i64 r.t.c.f1,.int .i64 r.t.c.f2,.bool r.t.c.f3,.bool r.t.c.f4,.slice A7 r.t.c.f5.length c7,.bool r.t.e,.string r.t.fr,.slice A10 r.t.ns.length c10,.slice A11 r.t.mo.length c11,.slice A12 r.t.ps.length c12,.slice A13 r.t.ad.length c13,.slice A14 r.t.el.length c14,.bool r.o,.slice A17 r.d.length c17] : List Value)[j + 1]? = some u → W.cell? ⟨(ad.add (x.toNat * 18)).block,(ad.add (x.toNat * 18)).off + (j + 1),none⟩ = some u := fun W hW j u hu => by
    have := pw_cell_below hW (hcell (j + 1) u hu)
    rwa [add_field ad _ _ (Nat.succ_pos j)] at this
   have p126 := eq_true hx0
   have q126 : (x < (l.length : Int)) = True := eq_true hlt
   cases eA
   have HF := Lib.hid hf
   have d1 := hf wr HR.out.below 0 _ rfl
   have d2 := hf wr HR.out.below 1 _ rfl
   have d3 := hf wr HR.out.below 2 _ rfl
   have d4 := hf wr HR.out.below 3 _ rfl
   have d5 := hf wr HR.out.below 4 _ rfl
   have d6 := hf wr HR.out.below 5 _ rfl
   have d7 := hf wr HR.out.below 6 _ rfl
   have d8 := hf wr HR.out.below 7 _ rfl
   have d9 := hf wr HR.out.below 8 _ rfl
   have d10 := hf wr HR.out.below 9 _ rfl
   have d11 := hf wr HR.out.below 10 _ rfl
   have d12 := hf wr HR.out.below 11 _ rfl
   have d13 := hf wr HR.out.below 12 _ rfl
   have d14 := hf wr HR.out.below 13 _ rfl
   have d15 := hf wr HR.out.below 14 _ rfl
   have d16 := hf wr HR.out.below 15 _ rfl
   have d17 := hf wr HR.out.below 16 _ rfl
   have e0 := HR.out.three.cell 0 rfl
   have e1 := HR.out.three.cell 1 rfl
   clear hf hcell hcell0 hcl0 hTy ld gd hK
   go_wp2_with fail
   refine wp_region_held_drew (S := (fun W => W.cell? ⟨g,0,none⟩ = some (.map (some b)) ∧ W.cell? ⟨g,1,none⟩ = some (.map ob) ∧ W.cell? ⟨(ad.add (x.toNat * 18)).block,(ad.add (x.toNat * 18)).off + 1,none⟩ = some (.int .i64 r.t.k) ∧ W.cell? ⟨(ad.add (x.toNat * 18)).block,(ad.add (x.toNat * 18)).off + 2,none⟩ = some (.string r.t.n) ∧ W.cell? ⟨(ad.add (x.toNat * 18)).block,(ad.add (x.toNat * 18)).off + 3,none⟩ = some (.int .i64 r.t.c.f0) ∧ W.cell? ⟨(ad.add (x.toNat * 18)).block,(ad.add (x.toNat * 18)).off + 4,none⟩ = some (.int .i64 r.t.c.f1) ∧ W.cell? ⟨(ad.add (x.toNat * 18)).block,(ad.add (x.toNat * 18)).off + 5,none⟩ = some (.int .i64 r.t.c.f2) ∧ W.cell? ⟨(ad.add (x.toNat * 18)).block,(ad.add (x.toNat * 18)).off + 6,none⟩ = some (.bool r.t.c.f3) ∧ W.cell? ⟨(ad.add (x.toNat * 18)).block,(ad.add (x.toNat * 18)).off + 7,none⟩ = some (.bool r.t.c.f4) ∧ W.cell? ⟨(ad.add (x.toNat * 18)).block,(ad.add (x.toNat * 18)).off + 8,none⟩ = some (.slice A7 r.t.c.f5.length c7) ∧ W.cell? ⟨(ad.add (x.toNat * 18)).block,(ad.add (x.toNat * 18)).off + 9,none⟩ = some (.bool r.t.e) ∧ W.cell? ⟨(ad.add (x.toNat * 18)).block,(ad.add (x.toNat * 18)).off + 10,none⟩ = some (.string r.t.fr) ∧ W.cell? ⟨(ad.add (x.toNat * 18)).block,(ad.add (x.toNat * 18)).off + 11,none⟩ = some (.slice A10 r.t.ns.length c10) ∧ W.cell? ⟨(ad.add (x.toNat * 18)).block,(ad.add (x.toNat * 18)).off + 12,none⟩ = some (.slice A11 r.t.mo.length c11) ∧ W.cell? ⟨(ad.add (x.toNat * 18)).block,(ad.add (x.toNat * 18)).off + 13,none⟩ = some (.slice A12 r.t.ps.length c12) ∧ W.cell? ⟨(ad.add (x.toNat * 18)).block,(ad.add (x.toNat * 18)).off + 14,none⟩ = some (.slice A13 r.t.ad.length c13) ∧ W.cell? ⟨(ad.add (x.toNat * 18)).block,(ad.add (x.toNat * 18)).off + 15,none⟩ = some (.slice A14 r.t.el.length c14))) (by kernel_rfl) ?_ (fun hHeld => ?_)
   ·exact ⟨(HR.out).three.cell 0 rfl,(HR.out).three.cell 1 rfl,HF.out _ (HR.out).below 0 _ rfl,HF.out _ (HR.out).below 1 _ rfl,HF.out _ (HR.out).below 2 _ rfl,HF.out _ (HR.out).below 3 _ rfl,HF.out _ (HR.out).below 4 _ rfl,HF.out _ (HR.out).below 5 _ rfl,HF.out _ (HR.out).below 6 _ rfl,HF.out _ (HR.out).below 7 _ rfl,HF.out _ (HR.out).below 8 _ rfl,HF.out _ (HR.out).below 9 _ rfl,HF.out _ (HR.out).below 10 _ rfl,HF.out _ (HR.out).below 11 _ rfl,HF.out _ (HR.out).below 12 _ rfl,HF.out _ (HR.out).below 13 _ rfl,HF.out _ (HR.out).below 14 _ rfl⟩
   refine wpAnyH_take (i := 0) (oi := ⟨some 18,.load 59 (.tmp 2),59,"scope.go:63",#[],none⟩) (v := ?_) rfl (by kernel_rfl) (by kernel_rfl) (by kernel_rfl) (fun _ _ _ h => h) (Or.inl ⟨by rfl, ?_⟩) (by assumption) ?_; rotate_left 1; · (intro w hSw; (try dsimp only at hSw); go_simp; all_goals with_reducible rfl)
   try simp only [Act.put,q3]
   refine wpAnyH_take (i := 1) (oi := ⟨some 19,.move (.tmp 1),35,"scope.go:63",#[],none⟩) (v := ?_) rfl (by kernel_rfl) (by kernel_rfl) (by kernel_rfl) (fun _ _ _ h => h) (Or.inl ⟨by rfl, ?_⟩) (by assumption) ?_; rotate_left 1; · (intro w _; go_simp; all_goals with_reducible rfl)
   try simp only [Act.put,q3]
   refine wpAnyH_take (i := 2) (oi := ⟨some 20,.move (.tmp 7),3,"scope.go:63",#[],none⟩) (v := ?_) rfl (by kernel_rfl) (by kernel_rfl) (by kernel_rfl) (fun _ _ _ h => h) (Or.inl ⟨by rfl, ?_⟩) (by assumption) ?_; rotate_left 1; · (intro w _; go_simp; all_goals with_reducible rfl)
   try simp only [Act.put,q3]
   refine wpAnyH_take (i := 3) (oi := ⟨some 21,.indexAddr 35 (.tmp 19) (.tmp 20),0,"scope.go:63",#[⟨1,.data⟩,⟨2,.data⟩],none⟩) (v := ?_) rfl (by kernel_rfl) (by kernel_rfl) (by kernel_rfl) (fun _ _ _ h => h) (Or.inl ⟨by rfl, ?_⟩) (by assumption) ?_; rotate_left 1; · (intro w _; go_simp; all_goals with_reducible rfl)
   try simp only [Act.put,q3]
   refine wpAnyH_take (i := 4) (oi := ⟨some 22,.fieldAddr 83 (.tmp 21) 1,0,"scope.go:63",#[⟨3,.data⟩],none⟩) (v := ?_) rfl (by kernel_rfl) (by kernel_rfl) (by kernel_rfl) (fun _ _ _ h => h) (Or.inl ⟨by rfl, ?_⟩) (by assumption) ?_; rotate_left 1; · (intro w _; go_simp; all_goals with_reducible rfl)
   try simp only [Act.put,q3]
   refine wpAnyH_take (i := 5) (oi := ⟨some 23,.load 38 (.tmp 22),38,"scope.go:63",#[⟨4,.data⟩],none⟩) (v := ?_) rfl (by kernel_rfl) (by kernel_rfl) (by kernel_rfl) (fun _ _ _ h => h) (Or.inl ⟨by rfl, ?_⟩) (by assumption) ?_; rotate_left 1; · (intro w hSw; (try dsimp only at hSw); go_simp; all_goals with_reducible rfl)
   try simp only [Act.put,q3]
   refine wpAnyH_ready (rs := [6,10]) (by kernel_rfl) (by simp) ?_
   refine AllReadyH.cons (o := ⟨some 24,.call { callee := .value (.func 16),args := #[.tmp 18,.tmp 23],argTypes := #[59,38] },62,"scope.go:63",#[⟨0,.data⟩,⟨5,.data⟩],none⟩) rfl (fun K hK => ?_) (AllReadyH.cons (o := ⟨some 8,.alloc 38,0,"scope.go:63",#[],none⟩) rfl (fun K hK => ?_) (AllReadyH.nil))
   rotate_left 1
   ·go_simp
    generalize hgx : wr.heap.size = gx
    have H4 := Lib.hid (alloc_at (n := gx) HR.out (.cells #[.int .i64 0,.string ⟨#[]⟩,.int .i64 0,.int .i64 0,.int .i64 0,.bool false,.bool false,.slice none 0 0,.bool false,.string ⟨#[]⟩,.slice none 0 0,.slice none 0 0,.slice none 0 0,.slice none 0 0,.slice none 0 0] 38) hgx.symm).drew
    refine hK.out _ _ ?_ (fun hHeld => ?_)
    ·exact ⟨(H4.out).drop.three.cell 0 rfl,(H4.out).drop.three.cell 1 rfl,HF.out _ (H4.out).below 0 _ rfl,HF.out _ (H4.out).below 1 _ rfl,HF.out _ (H4.out).below 2 _ rfl,HF.out _ (H4.out).below 3 _ rfl,HF.out _ (H4.out).below 4 _ rfl,HF.out _ (H4.out).below 5 _ rfl,HF.out _ (H4.out).below 6 _ rfl,HF.out _ (H4.out).below 7 _ rfl,HF.out _ (H4.out).below 8 _ rfl,HF.out _ (H4.out).below 9 _ rfl,HF.out _ (H4.out).below 10 _ rfl,HF.out _ (H4.out).below 11 _ rfl,HF.out _ (H4.out).below 12 _ rfl,HF.out _ (H4.out).below 13 _ rfl,HF.out _ (H4.out).below 14 _ rfl⟩
    clear hK K
    try simp only [Act.put,q3]
    refine wpAnyH_ready (rs := [6]) (by kernel_rfl) (by simp) ?_
    refine AllReadyH.cons (o := ⟨some 24,.call { callee := .value (.func 16),args := #[.tmp 18,.tmp 23],argTypes := #[59,38] },62,"scope.go:63",#[⟨0,.data⟩,⟨5,.data⟩],none⟩) rfl (fun K hK => ?_) AllReadyH.nil
    go_simp
    refine (HA.out.2.2.2 _ _ r.t _ (five H4.out) HK.out.1 (HA.out.2.1 r hrm).2.1 (HA.out.2.2.1 r hrm).1).mono ?_
    rintro e w5 ⟨q,rfl,h5⟩
    refine hK.out _ _ ?_ (fun hHeld => ?_)
    ·exact ⟨((six h5)).cell 0 rfl,((six h5)).cell 1 rfl,HF.out _ ((six h5)).below 0 _ rfl,HF.out _ ((six h5)).below 1 _ rfl,HF.out _ ((six h5)).below 2 _ rfl,HF.out _ ((six h5)).below 3 _ rfl,HF.out _ ((six h5)).below 4 _ rfl,HF.out _ ((six h5)).below 5 _ rfl,HF.out _ ((six h5)).below 6 _ rfl,HF.out _ ((six h5)).below 7 _ rfl,HF.out _ ((six h5)).below 8 _ rfl,HF.out _ ((six h5)).below 9 _ rfl,HF.out _ ((six h5)).below 10 _ rfl,HF.out _ ((six h5)).below 11 _ rfl,HF.out _ ((six h5)).below 12 _ rfl,HF.out _ ((six h5)).below 13 _ rfl,HF.out _ ((six h5)).below 14 _ rfl⟩
    clear hK K
    try simp only [Act.put,q3]
    refine wpAnyH_take (i := 7) (oi := ⟨some 17,.move (.tmp 24),62,"scope.go:63",#[⟨6,.data⟩],none⟩) (v := ?_) rfl (by kernel_rfl) (by kernel_rfl) (by kernel_rfl) (fun _ _ _ h => h) (Or.inl ⟨by rfl, ?_⟩) (by assumption) ?_; rotate_left 1; · (intro w _; go_simp; all_goals with_reducible rfl)
    try simp only [Act.put,q3]
    refine wpAnyH_take (i := 8) (oi := ⟨some 25,.extract (.tmp 17) 0,38,"scope.go:63",#[⟨7,.data⟩],none⟩) (v := ?_) rfl (by kernel_rfl) (by kernel_rfl) (by kernel_rfl) (fun _ _ _ h => h) (Or.inl ⟨by rfl, ?_⟩) (by assumption) ?_; rotate_left 1; · (intro w _; go_simp; all_goals with_reducible rfl)
    try simp only [Act.put,q3]
    refine wpAnyH_take (i := 9) (oi := ⟨some 26,.extract (.tmp 17) 1,4,"scope.go:63",#[⟨7,.data⟩,⟨11,.gcOnly (.lateStores)⟩],none⟩) (v := ?_) rfl (by kernel_rfl) (by kernel_rfl) (by kernel_rfl) (fun _ _ _ h => h) (Or.inl ⟨by rfl, ?_⟩) (by assumption) ?_; rotate_left 1; · (intro w _; go_simp; all_goals with_reducible rfl)
    try simp only [Act.put,q3]
    refine wpAnyH_ready (rs := [11]) (by kernel_rfl) (by simp) ?_
    refine AllReadyH.cons (o := ⟨none,.store 38 (.tmp 8) (.tmp 25),0,"scope.go:63",#[⟨10,.data⟩,⟨8,.data⟩,⟨6,.chain⟩,⟨0,.phase⟩,⟨1,.phase⟩,⟨2,.phase⟩,⟨3,.phase⟩,⟨4,.phase⟩,⟨5,.phase⟩,⟨6,.phase⟩,⟨7,.phase⟩,⟨8,.phase⟩,⟨9,.textOnly (.lateStores)⟩,⟨10,.phase⟩],none⟩) rfl (fun K hK => ?_) AllReadyH.nil
    refine step_store_blk (by rfl) (ty := 38) (by rfl) [.int .i64 q.k,.string q.n,.int .i64 q.c0,.int .i64 q.c1,.int .i64 q.c2,.bool q.c3,.bool q.c4,.slice q.A7 q.n7 q.p7,.bool q.e,.string q.fr,.slice q.A10 q.n10 q.p10,.slice q.A11 q.n11 q.p11,.slice q.A12 q.n12 q.p12,.slice q.A13 q.n13 q.p13,.slice q.A14 q.n14 q.p14] (by rfl) (by rfl) rfl (by kernel_rfl) (by simp [Value.oneCell']) h5.three rfl ?_
    intro w6 h6
    refine hK.out _ _ ?_ (fun hHeld => ?_)
    ·exact ⟨((six h6)).cell 0 rfl,((six h6)).cell 1 rfl,HF.out _ ((six h6)).below 0 _ rfl,HF.out _ ((six h6)).below 1 _ rfl,HF.out _ ((six h6)).below 2 _ rfl,HF.out _ ((six h6)).below 3 _ rfl,HF.out _ ((six h6)).below 4 _ rfl,HF.out _ ((six h6)).below 5 _ rfl,HF.out _ ((six h6)).below 6 _ rfl,HF.out _ ((six h6)).below 7 _ rfl,HF.out _ ((six h6)).below 8 _ rfl,HF.out _ ((six h6)).below 9 _ rfl,HF.out _ ((six h6)).below 10 _ rfl,HF.out _ ((six h6)).below 11 _ rfl,HF.out _ ((six h6)).below 12 _ rfl,HF.out _ ((six h6)).below 13 _ rfl,HF.out _ ((six h6)).below 14 _ rfl⟩
    clear hK K
    try simp only [Act.put]
    refine wpAnyH_take (i := 12) (oi := ⟨some 9,.assign (.tmp 26),4,"scope.go:63",#[⟨9,.data⟩,⟨11,.chain⟩,⟨0,.phase⟩,⟨1,.phase⟩,⟨2,.phase⟩,⟨3,.phase⟩,⟨4,.phase⟩,⟨5,.phase⟩,⟨6,.phase⟩,⟨7,.phase⟩,⟨8,.phase⟩,⟨9,.phase⟩,⟨10,.phase⟩,⟨11,.phase⟩],none⟩) (v := ?_) rfl (by kernel_rfl) (by kernel_rfl) (by kernel_rfl) (fun _ _ _ h => h) (Or.inl ⟨by rfl, ?_⟩) (by assumption) ?_; rotate_left 1; · (intro w _; go_simp; all_goals with_reducible rfl)
    try simp only [Act.put,q3]
    refine wpAnyH_done (by kernel_rfl) ?_ _
    have H6 := Lib.hid h6
    clear h6 h5 e0 e1 hHeld
    cases hq : typP (lookS fm) n r.t with
    | none =>
     have HN : Hid (partsP (typP (lookS fm) n) l = none) := Lib.hid (mapO_none hrm (by unfold partP; rw [hq]; rfl))
     have H7 := Lib.hid (Vw.base (p := fun W => ∀ r',partsP (typP (lookS fm) n) l = some r' → 0 = r'.length ∧ r'.length ≤ 0 ∧ kPt.C W none r'.length r') H6.out.drop.drop.two.drop.two.drop.two.drop (fun wv _ r' hr => by rw [HN.out] at hr; cases hr))
     go_wp2
     refine bodyPost_ret (v := .tuple #[.slice none 0 0,.bool false]) (by simp [results,Tryz.results38,go_sem]) rfl ⟨none,0,0,by rw [HN.out]; rfl,H7.out⟩
    | some t1 =>
     have f0 := H6.out.cell 0 rfl
     have f1 := H6.out.cell 1 rfl
     have f2 := H6.out.cell 2 rfl
     have f3 := H6.out.cell 3 rfl
     have f4 := H6.out.cell 4 rfl
     have f5 := H6.out.cell 5 rfl
     have f6 := H6.out.cell 6 rfl
     have f7 := H6.out.cell 7 rfl
     have f8 := H6.out.cell 8 rfl
     have f9 := H6.out.cell 9 rfl
     have f10 := H6.out.cell 10 rfl
     have f11 := H6.out.cell 11 rfl
     have f12 := H6.out.cell 12 rfl
     have f13 := H6.out.cell 13 rfl
     have f14 := H6.out.cell 14 rfl
     have f17 := HF.out _ H6.out.below 16 _ rfl
     go_wp2_with fail
     refine wp_region_held_drew (S := (fun W => W.cell? ⟨gx,0,none⟩ = some (.int .i64 q.k) ∧ W.cell? ⟨gx,1,none⟩ = some (.string q.n) ∧ W.cell? ⟨gx,2,none⟩ = some (.int .i64 q.c0) ∧ W.cell? ⟨gx,3,none⟩ = some (.int .i64 q.c1) ∧ W.cell? ⟨gx,4,none⟩ = some (.int .i64 q.c2) ∧ W.cell? ⟨gx,5,none⟩ = some (.bool q.c3) ∧ W.cell? ⟨gx,6,none⟩ = some (.bool q.c4) ∧ W.cell? ⟨gx,7,none⟩ = some (.slice q.A7 q.n7 q.p7) ∧ W.cell? ⟨gx,8,none⟩ = some (.bool q.e) ∧ W.cell? ⟨gx,9,none⟩ = some (.string q.fr) ∧ W.cell? ⟨gx,10,none⟩ = some (.slice q.A10 q.n10 q.p10) ∧ W.cell? ⟨gx,11,none⟩ = some (.slice q.A11 q.n11 q.p11) ∧ W.cell? ⟨gx,12,none⟩ = some (.slice q.A12 q.n12 q.p12) ∧ W.cell? ⟨gx,13,none⟩ = some (.slice q.A13 q.n13 q.p13) ∧ W.cell? ⟨gx,14,none⟩ = some (.slice q.A14 q.n14 q.p14) ∧ W.cell? ⟨(ad.add (x.toNat * 18)).block,(ad.add (x.toNat * 18)).off + 17,none⟩ = some (.slice A17 r.d.length c17))) (by kernel_rfl) ?_ (fun hHeld => ?_)
     ·exact ⟨(H6.out).cell 0 rfl,(H6.out).cell 1 rfl,(H6.out).cell 2 rfl,(H6.out).cell 3 rfl,(H6.out).cell 4 rfl,(H6.out).cell 5 rfl,(H6.out).cell 6 rfl,(H6.out).cell 7 rfl,(H6.out).cell 8 rfl,(H6.out).cell 9 rfl,(H6.out).cell 10 rfl,(H6.out).cell 11 rfl,(H6.out).cell 12 rfl,(H6.out).cell 13 rfl,(H6.out).cell 14 rfl,HF.out _ (H6.out).below 16 _ rfl⟩
     refine wpAnyH_take (i := 0) (oi := ⟨some 29,.move (.tmp 6),35,"scope.go:67",#[],none⟩) (v := ?_) rfl (by kernel_rfl) (by kernel_rfl) (by kernel_rfl) (fun _ _ _ h => h) (Or.inl ⟨by rfl, ?_⟩) (by assumption) ?_; rotate_left 1; · (intro w _; go_simp; all_goals with_reducible rfl)
     try simp only [Act.put,q3]
     refine wpAnyH_take (i := 1) (oi := ⟨some 30,.move (.tmp 7),3,"scope.go:67",#[],none⟩) (v := ?_) rfl (by kernel_rfl) (by kernel_rfl) (by kernel_rfl) (fun _ _ _ h => h) (Or.inl ⟨by rfl, ?_⟩) (by assumption) ?_; rotate_left 1; · (intro w _; go_simp; all_goals with_reducible rfl)
     try simp only [Act.put,q3]
     refine wpAnyH_take (i := 2) (oi := ⟨some 31,.move (.tmp 6),35,"scope.go:67",#[⟨13,.gcOnly (.lateStores)⟩],none⟩) (v := ?_) rfl (by kernel_rfl) (by kernel_rfl) (by kernel_rfl) (fun _ _ _ h => h) (Or.inl ⟨by rfl, ?_⟩) (by assumption) ?_; rotate_left 1; · (intro w _; go_simp; all_goals with_reducible rfl)
     try simp only [Act.put,q3]
     refine wpAnyH_take (i := 3) (oi := ⟨some 32,.move (.tmp 7),3,"scope.go:67",#[⟨13,.gcOnly (.lateStores)⟩],none⟩) (v := ?_) rfl (by kernel_rfl) (by kernel_rfl) (by kernel_rfl) (fun _ _ _ h => h) (Or.inl ⟨by rfl, ?_⟩) (by assumption) ?_; rotate_left 1; · (intro w _; go_simp; all_goals with_reducible rfl)
     try simp only [Act.put,q3]
     refine wpAnyH_take (i := 4) (oi := ⟨some 33,.load 38 (.tmp 8),38,"scope.go:67",#[],none⟩) (v := ?_) rfl (by kernel_rfl) (by kernel_rfl) (by kernel_rfl) (fun _ _ _ h => h) (Or.inl ⟨by rfl, ?_⟩) (by assumption) ?_; rotate_left 1; · (intro w hSw; (try dsimp only at hSw); go_simp; all_goals with_reducible rfl)
     try simp only [Act.put,q3]
     refine wpAnyH_take (i := 5) (oi := ⟨some 34,.move (.tmp 1),35,"scope.go:67",#[],none⟩) (v := ?_) rfl (by kernel_rfl) (by kernel_rfl) (by kernel_rfl) (fun _ _ _ h => h) (Or.inl ⟨by rfl, ?_⟩) (by assumption) ?_; rotate_left 1; · (intro w _; go_simp; all_goals with_reducible rfl)
     try simp only [Act.put,q3]
     refine wpAnyH_take (i := 6) (oi := ⟨some 35,.move (.tmp 7),3,"scope.go:67",#[],none⟩) (v := ?_) rfl (by kernel_rfl) (by kernel_rfl) (by kernel_rfl) (fun _ _ _ h => h) (Or.inl ⟨by rfl, ?_⟩) (by assumption) ?_; rotate_left 1; · (intro w _; go_simp; all_goals with_reducible rfl)
     try simp only [Act.put,q3]
     refine wpAnyH_take (i := 7) (oi := ⟨some 36,.indexAddr 35 (.tmp 34) (.tmp 35),0,"scope.go:67",#[⟨5,.data⟩,⟨6,.data⟩],none⟩) (v := ?_) rfl (by kernel_rfl) (by kernel_rfl) (by kernel_rfl) (fun _ _ _ h => h) (Or.inl ⟨by rfl, ?_⟩) (by assumption) ?_; rotate_left 1; · (intro w _; go_simp; all_goals with_reducible rfl)
     try simp only [Act.put,q3]
     refine wpAnyH_take (i := 8) (oi := ⟨some 37,.fieldAddr 83 (.tmp 36) 3,0,"scope.go:67",#[⟨7,.data⟩],none⟩) (v := ?_) rfl (by kernel_rfl) (by kernel_rfl) (by kernel_rfl) (fun _ _ _ h => h) (Or.inl ⟨by rfl, ?_⟩) (by assumption) ?_; rotate_left 1; · (intro w _; go_simp; all_goals with_reducible rfl)
     try simp only [Act.put,q3]
     refine wpAnyH_take (i := 9) (oi := ⟨some 38,.load 81 (.tmp 37),81,"scope.go:67",#[⟨8,.data⟩],none⟩) (v := ?_) rfl (by kernel_rfl) (by kernel_rfl) (by kernel_rfl) (fun _ _ _ h => h) (Or.inl ⟨by rfl, ?_⟩) (by assumption) ?_; rotate_left 1; · (intro w hSw; (try dsimp only at hSw); go_simp; all_goals with_reducible rfl)
     try simp only [Act.put,q3]
     refine wpAnyH_ready (rs := [10]) (by kernel_rfl) (by simp) ?_
     refine AllReadyH.cons (o := ⟨some 39,.call { callee := .value (.func 62),args := #[.tmp 38],argTypes := #[81] },81,"scope.go:67",#[⟨9,.data⟩],none⟩) rfl (fun K hK => ?_) AllReadyH.nil
     go_simp
     refine (clone_vals A17 c17 r.d H6.out.drew HK.out.2.2 (by simp only [M]; have := (HA.out.2.2.1 r hrm).2; omega)).mono ?_
     rintro e w7 ⟨v7,ys,rfl,hY7,h7⟩
     have hv7 : ∃ A18 p18,v7 = .slice A18 r.d.length p18 := by
      obtain ⟨-,A18,p18,e, -⟩ := h7.reads
      exact ⟨A18,p18,e⟩
     obtain ⟨A18,p18,rfl⟩ := hv7
     refine hK.out _ _ ?_ (fun hHeld => ?_)
     ·exact ⟨(h7).two.cell 0 rfl,(h7).two.cell 1 rfl,(h7).two.cell 2 rfl,(h7).two.cell 3 rfl,(h7).two.cell 4 rfl,(h7).two.cell 5 rfl,(h7).two.cell 6 rfl,(h7).two.cell 7 rfl,(h7).two.cell 8 rfl,(h7).two.cell 9 rfl,(h7).two.cell 10 rfl,(h7).two.cell 11 rfl,(h7).two.cell 12 rfl,(h7).two.cell 13 rfl,(h7).two.cell 14 rfl,HF.out _ (h7).below 16 _ rfl⟩
     clear hK K
     have h8 := Vw.row (d := kVal) (by decide) rfl (Vw.base h7 (p := fun W => Reps (kVal.K W) 5 r.d ys) fun wv hb => hY7.imp_ fun _ _ hp => kVal.K_below hb hp).two
     try simp only [Act.put,q3]
     refine wpAnyH_take (i := 11) (oi := ⟨some 40,.indexAddr 35 (.tmp 29) (.tmp 30),0,"scope.go:67",#[⟨0,.data⟩,⟨1,.data⟩,⟨0,.phase⟩,⟨1,.phase⟩,⟨2,.textOnly (.lateStores)⟩,⟨3,.textOnly (.lateStores)⟩,⟨4,.phase⟩,⟨5,.textOnly (.lateStores)⟩,⟨6,.textOnly (.lateStores)⟩,⟨7,.textOnly (.lateStoresUnsure)⟩,⟨8,.textOnly (.lateStoresUnsure)⟩,⟨9,.phase⟩,⟨10,.phase⟩],none⟩) (v := ?_) rfl (by kernel_rfl) (by kernel_rfl) (by kernel_rfl) (fun _ _ _ h => h) (Or.inl ⟨by rfl, ?_⟩) (by assumption) ?_; rotate_left 1; · (intro w _; go_simp; all_goals with_reducible rfl)
     try simp only [Act.put,q3]
     refine wpAnyH_take (i := 12) (oi := ⟨some 41,.fieldAddr 83 (.tmp 40) 1,0,"scope.go:67",#[⟨11,.data⟩,⟨0,.phase⟩,⟨1,.phase⟩,⟨2,.textOnly (.lateStores)⟩,⟨3,.textOnly (.lateStores)⟩,⟨4,.phase⟩,⟨5,.textOnly (.lateStores)⟩,⟨6,.textOnly (.lateStores)⟩,⟨7,.textOnly (.lateStoresUnsure)⟩,⟨8,.textOnly (.lateStoresUnsure)⟩,⟨9,.phase⟩,⟨10,.phase⟩],none⟩) (v := ?_) rfl (by kernel_rfl) (by kernel_rfl) (by kernel_rfl) (fun _ _ _ h => h) (Or.inl ⟨by rfl, ?_⟩) (by assumption) ?_; rotate_left 1; · (intro w _; go_simp; all_goals with_reducible rfl)
     try simp only [Act.put,q3]
     refine wpAnyH_ready (rs := [13]) (by kernel_rfl) (by simp) ?_
     refine AllReadyH.cons (o := ⟨none,.store 38 (.tmp 41) (.tmp 33),0,"scope.go:67",#[⟨12,.data⟩,⟨4,.data⟩,⟨10,.chain⟩,⟨0,.phase⟩,⟨1,.phase⟩,⟨2,.textOnly (.lateStores)⟩,⟨3,.textOnly (.lateStores)⟩,⟨4,.phase⟩,⟨5,.textOnly (.lateStores)⟩,⟨6,.textOnly (.lateStores)⟩,⟨7,.textOnly (.lateStoresUnsure)⟩,⟨8,.textOnly (.lateStoresUnsure)⟩,⟨9,.phase⟩,⟨10,.phase⟩],none⟩) rfl (fun K hK => ?_) AllReadyH.nil
     refine step_store_row (by rfl) (ty := 38) (by rfl) (x.toNat * 18 + 1) [.int .i64 q.k,.string q.n,.int .i64 q.c0,.int .i64 q.c1,.int .i64 q.c2,.bool q.c3,.bool q.c4,.slice q.A7 q.n7 q.p7,.bool q.e,.string q.fr,.slice q.A10 q.n10 q.p10,.slice q.A11 q.n11 q.p11,.slice q.A12 q.n12 q.p12,.slice q.A13 q.n13 q.p13,.slice q.A14 q.n14 q.p14] (by rfl) (by rfl) rfl (by kernel_rfl) (by simp [Value.oneCell']) (five h8) (by simp only [List.length_cons,List.length_nil]; omega) ?_
     intro w9 h9
     refine hK.out _ _ ?_ (fun hHeld => ?_)
     ·exact ⟨(h9).three.cell 0 rfl,(h9).three.cell 1 rfl,(h9).three.cell 2 rfl,(h9).three.cell 3 rfl,(h9).three.cell 4 rfl,(h9).three.cell 5 rfl,(h9).three.cell 6 rfl,(h9).three.cell 7 rfl,(h9).three.cell 8 rfl,(h9).three.cell 9 rfl,(h9).three.cell 10 rfl,(h9).three.cell 11 rfl,(h9).three.cell 12 rfl,(h9).three.cell 13 rfl,(h9).three.cell 14 rfl,HF.out _ (h9).below 16 _ rfl⟩
     clear hK K
     try simp only [Act.put]
     refine wpAnyH_take (i := 14) (oi := ⟨some 42,.indexAddr 35 (.tmp 31) (.tmp 32),0,"scope.go:67",#[⟨2,.data⟩,⟨3,.data⟩,⟨0,.phase⟩,⟨1,.phase⟩,⟨2,.phase⟩,⟨3,.phase⟩,⟨4,.phase⟩,⟨5,.phase⟩,⟨6,.phase⟩,⟨7,.phase⟩,⟨8,.phase⟩,⟨9,.phase⟩,⟨10,.phase⟩,⟨11,.phase⟩,⟨12,.phase⟩,⟨13,.phase⟩],none⟩) (v := ?_) rfl (by kernel_rfl) (by kernel_rfl) (by kernel_rfl) (fun _ _ _ h => h) (Or.inl ⟨by rfl, ?_⟩) (by assumption) ?_; rotate_left 1; · (intro w _; go_simp; all_goals with_reducible rfl)
     try simp only [Act.put,q3]
     refine wpAnyH_take (i := 15) (oi := ⟨some 43,.fieldAddr 83 (.tmp 42) 3,0,"scope.go:67",#[⟨14,.data⟩,⟨0,.phase⟩,⟨1,.phase⟩,⟨2,.phase⟩,⟨3,.phase⟩,⟨4,.phase⟩,⟨5,.phase⟩,⟨6,.phase⟩,⟨7,.phase⟩,⟨8,.phase⟩,⟨9,.phase⟩,⟨10,.phase⟩,⟨11,.phase⟩,⟨12,.phase⟩,⟨13,.phase⟩],none⟩) (v := ?_) rfl (by kernel_rfl) (by kernel_rfl) (by kernel_rfl) (fun _ _ _ h => h) (Or.inl ⟨by rfl, ?_⟩) (by assumption) ?_; rotate_left 1; · (intro w _; go_simp; all_goals with_reducible rfl)
     try simp only [Act.put,q3]
     refine wpAnyH_ready (rs := [16]) (by kernel_rfl) (by simp) ?_
     refine AllReadyH.cons (o := ⟨none,.store 81 (.tmp 43) (.tmp 39),0,"scope.go:67",#[⟨15,.data⟩,⟨10,.data⟩,⟨13,.chain⟩,⟨0,.phase⟩,⟨1,.phase⟩,⟨2,.phase⟩,⟨3,.phase⟩,⟨4,.phase⟩,⟨5,.phase⟩,⟨6,.phase⟩,⟨7,.phase⟩,⟨8,.phase⟩,⟨9,.phase⟩,⟨10,.phase⟩,⟨11,.phase⟩,⟨12,.phase⟩,⟨13,.phase⟩],none⟩) rfl (fun K hK => ?_) AllReadyH.nil
     refine step_store_row (by rfl) (ty := 81) (by rfl) (x.toNat * 18 + 17) [.slice A18 r.d.length p18] (by rfl) (by rfl) rfl (by kernel_rfl) (by simp [Value.oneCell']) h9 (by simp only [List.length_cons,List.length_nil]; omega) ?_
     intro w10 h10
     refine hK.out _ _ ?_ (fun hHeld => ?_)
     ·exact ⟨(h10).three.cell 0 rfl,(h10).three.cell 1 rfl,(h10).three.cell 2 rfl,(h10).three.cell 3 rfl,(h10).three.cell 4 rfl,(h10).three.cell 5 rfl,(h10).three.cell 6 rfl,(h10).three.cell 7 rfl,(h10).three.cell 8 rfl,(h10).three.cell 9 rfl,(h10).three.cell 10 rfl,(h10).three.cell 11 rfl,(h10).three.cell 12 rfl,(h10).three.cell 13 rfl,(h10).three.cell 14 rfl,HF.out _ (h10).below 16 _ rfl⟩
     clear hK K
     try simp only [Act.put]
     refine wpAnyH_done (by kernel_rfl) ?_ _
     have hj : x.toNat < l.length := by omega
     have hylen : y.length = x.toNat := by rw [mapO_len _ _ _ HY.out,List.length_take]; omega
     have hxkl : xk.length = l.length * 18 := HR.out.rowLen
     have h11 := four (Vw.map (Vw.join (Vw.join (five h10.three.drop).three).three) (q := fun W => Reps (kPt.K W) 18 ((y ++ [⟨r.n,t1,r.o,r.d⟩]) ++ l.drop (x.toNat + 1)) (xk2 xk [.int .i64 q.k,.string q.n,.int .i64 q.c0,.int .i64 q.c1,.int .i64 q.c2,.bool q.c3,.bool q.c4,.slice q.A7 q.n7 q.p7,.bool q.e,.string q.fr,.slice q.A10 q.n10 q.p10,.slice q.A11 q.n11 q.p11,.slice q.A12 q.n12 q.p12,.slice q.A13 q.n13 q.p13,.slice q.A14 q.n14 q.p14] (x.toNat * 18) (.slice A18 r.d.length p18))) fun wv _ hp => by
      obtain ⟨h1,⟨A,c,e,h2, -,h3⟩,h4⟩ := hp
      cases e
      exact part_set HX.out HG.out hxkl HT.out hylen h4 (h1 _ hq) h2 h3).two
     have H11 := Lib.hid h11.three.three
     have e1 : (x + 1).toNat = x.toNat + 1 := by omega
     have HY2 : Hid (mapO (partP (typP (lookS fm) n)) (l.take (x + 1).toNat) = some (y ++ [⟨r.n,t1,r.o,r.d⟩])) := Lib.hid (by
      rw [e1]
      exact mapO_take HG.out HY.out (by unfold partP; rw [hq]; rfl))
     have HT2 := Lib.hid (part_behind (ts := [.int .i64 q.k,.string q.n,.int .i64 q.c0,.int .i64 q.c1,.int .i64 q.c2,.bool q.c3,.bool q.c4,.slice q.A7 q.n7 q.p7,.bool q.e,.string q.fr,.slice q.A10 q.n10 q.p10,.slice q.A11 q.n11 q.p11,.slice q.A12 q.n12 q.p12,.slice q.A13 q.n13 q.p13,.slice q.A14 q.n14 q.p14]) HX.out HG.out hxkl HT.out rfl (.slice A18 r.d.length p18))
     rw [← e1] at H11 HT2
     clear h11 h10 h9 h8 h7 hHeld
     go_wp2
     exact ⟨⟨x + 1,_,_,by omega,by omega,by go_num,H11,HY2,HT2⟩,by simp only [intOf]; omega⟩
   ·go_simp
    refine (HA.out.2.2.2 _ _ r.t _ (four HR.out.drew) HK.out.1 (HA.out.2.1 r hrm).2.1 (HA.out.2.2.1 r hrm).1).mono ?_
    rintro e w5 ⟨q,rfl,h5⟩
    refine hK.out _ _ ?_ (fun hHeld => ?_)
    ·exact ⟨((five h5)).cell 0 rfl,((five h5)).cell 1 rfl,HF.out _ ((five h5)).below 0 _ rfl,HF.out _ ((five h5)).below 1 _ rfl,HF.out _ ((five h5)).below 2 _ rfl,HF.out _ ((five h5)).below 3 _ rfl,HF.out _ ((five h5)).below 4 _ rfl,HF.out _ ((five h5)).below 5 _ rfl,HF.out _ ((five h5)).below 6 _ rfl,HF.out _ ((five h5)).below 7 _ rfl,HF.out _ ((five h5)).below 8 _ rfl,HF.out _ ((five h5)).below 9 _ rfl,HF.out _ ((five h5)).below 10 _ rfl,HF.out _ ((five h5)).below 11 _ rfl,HF.out _ ((five h5)).below 12 _ rfl,HF.out _ ((five h5)).below 13 _ rfl,HF.out _ ((five h5)).below 14 _ rfl⟩
    clear hK K
    try simp only [Act.put,q3]
    refine wpAnyH_take (i := 7) (oi := ⟨some 17,.move (.tmp 24),62,"scope.go:63",#[⟨6,.data⟩],none⟩) (v := ?_) rfl (by kernel_rfl) (by kernel_rfl) (by kernel_rfl) (fun _ _ _ h => h) (Or.inl ⟨by rfl, ?_⟩) (by assumption) ?_; rotate_left 1; · (intro w _; go_simp; all_goals with_reducible rfl)
    try simp only [Act.put,q3]
    refine wpAnyH_take (i := 8) (oi := ⟨some 25,.extract (.tmp 17) 0,38,"scope.go:63",#[⟨7,.data⟩],none⟩) (v := ?_) rfl (by kernel_rfl) (by kernel_rfl) (by kernel_rfl) (fun _ _ _ h => h) (Or.inl ⟨by rfl, ?_⟩) (by assumption) ?_; rotate_left 1; · (intro w _; go_simp; all_goals with_reducible rfl)
    try simp only [Act.put,q3]
    refine wpAnyH_take (i := 9) (oi := ⟨some 26,.extract (.tmp 17) 1,4,"scope.go:63",#[⟨7,.data⟩,⟨11,.gcOnly (.lateStores)⟩],none⟩) (v := ?_) rfl (by kernel_rfl) (by kernel_rfl) (by kernel_rfl) (fun _ _ _ h => h) (Or.inl ⟨by rfl, ?_⟩) (by assumption) ?_; rotate_left 1; · (intro w _; go_simp; all_goals with_reducible rfl)
    try simp only [Act.put,q3]
    refine wpAnyH_ready (rs := [10]) (by kernel_rfl) (by simp) ?_
    refine AllReadyH.cons (o := ⟨some 8,.alloc 38,0,"scope.go:63",#[],none⟩) rfl (fun K hK => ?_) AllReadyH.nil
    go_simp
    generalize hgx : w5.heap.size = gx
    have H4 := Lib.hid (alloc_at (n := gx) h5 (.cells #[.int .i64 0,.string ⟨#[]⟩,.int .i64 0,.int .i64 0,.int .i64 0,.bool false,.bool false,.slice none 0 0,.bool false,.string ⟨#[]⟩,.slice none 0 0,.slice none 0 0,.slice none 0 0,.slice none 0 0,.slice none 0 0] 38) hgx.symm)
    refine hK.out _ _ ?_ (fun hHeld => ?_)
    ·exact ⟨((six H4.out)).cell 0 rfl,((six H4.out)).cell 1 rfl,HF.out _ ((six H4.out)).below 0 _ rfl,HF.out _ ((six H4.out)).below 1 _ rfl,HF.out _ ((six H4.out)).below 2 _ rfl,HF.out _ ((six H4.out)).below 3 _ rfl,HF.out _ ((six H4.out)).below 4 _ rfl,HF.out _ ((six H4.out)).below 5 _ rfl,HF.out _ ((six H4.out)).below 6 _ rfl,HF.out _ ((six H4.out)).below 7 _ rfl,HF.out _ ((six H4.out)).below 8 _ rfl,HF.out _ ((six H4.out)).below 9 _ rfl,HF.out _ ((six H4.out)).below 10 _ rfl,HF.out _ ((six H4.out)).below 11 _ rfl,HF.out _ ((six H4.out)).below 12 _ rfl,HF.out _ ((six H4.out)).below 13 _ rfl,HF.out _ ((six H4.out)).below 14 _ rfl⟩
    clear hK K
    try simp only [Act.put,q3]
    refine wpAnyH_ready (rs := [11]) (by kernel_rfl) (by simp) ?_
    refine AllReadyH.cons (o := ⟨none,.store 38 (.tmp 8) (.tmp 25),0,"scope.go:63",#[⟨10,.data⟩,⟨8,.data⟩,⟨6,.chain⟩,⟨0,.phase⟩,⟨1,.phase⟩,⟨2,.phase⟩,⟨3,.phase⟩,⟨4,.phase⟩,⟨5,.phase⟩,⟨6,.phase⟩,⟨7,.phase⟩,⟨8,.phase⟩,⟨9,.textOnly (.lateStores)⟩,⟨10,.phase⟩],none⟩) rfl (fun K hK => ?_) AllReadyH.nil
    refine step_store_blk (by rfl) (ty := 38) (by rfl) [.int .i64 q.k,.string q.n,.int .i64 q.c0,.int .i64 q.c1,.int .i64 q.c2,.bool q.c3,.bool q.c4,.slice q.A7 q.n7 q.p7,.bool q.e,.string q.fr,.slice q.A10 q.n10 q.p10,.slice q.A11 q.n11 q.p11,.slice q.A12 q.n12 q.p12,.slice q.A13 q.n13 q.p13,.slice q.A14 q.n14 q.p14] (by rfl) (by rfl) rfl (by kernel_rfl) (by simp [Value.oneCell']) H4.out rfl ?_
    intro w6 h6
    refine hK.out _ _ ?_ (fun hHeld => ?_)
    ·exact ⟨((six h6)).cell 0 rfl,((six h6)).cell 1 rfl,HF.out _ ((six h6)).below 0 _ rfl,HF.out _ ((six h6)).below 1 _ rfl,HF.out _ ((six h6)).below 2 _ rfl,HF.out _ ((six h6)).below 3 _ rfl,HF.out _ ((six h6)).below 4 _ rfl,HF.out _ ((six h6)).below 5 _ rfl,HF.out _ ((six h6)).below 6 _ rfl,HF.out _ ((six h6)).below 7 _ rfl,HF.out _ ((six h6)).below 8 _ rfl,HF.out _ ((six h6)).below 9 _ rfl,HF.out _ ((six h6)).below 10 _ rfl,HF.out _ ((six h6)).below 11 _ rfl,HF.out _ ((six h6)).below 12 _ rfl,HF.out _ ((six h6)).below 13 _ rfl,HF.out _ ((six h6)).below 14 _ rfl⟩
    clear hK K
    try simp only [Act.put]
    refine wpAnyH_take (i := 12) (oi := ⟨some 9,.assign (.tmp 26),4,"scope.go:63",#[⟨9,.data⟩,⟨11,.chain⟩,⟨0,.phase⟩,⟨1,.phase⟩,⟨2,.phase⟩,⟨3,.phase⟩,⟨4,.phase⟩,⟨5,.phase⟩,⟨6,.phase⟩,⟨7,.phase⟩,⟨8,.phase⟩,⟨9,.phase⟩,⟨10,.phase⟩,⟨11,.phase⟩],none⟩) (v := ?_) rfl (by kernel_rfl) (by kernel_rfl) (by kernel_rfl) (fun _ _ _ h => h) (Or.inl ⟨by rfl, ?_⟩) (by assumption) ?_; rotate_left 1; · (intro w _; go_simp; all_goals with_reducible rfl)
    try simp only [Act.put,q3]
    refine wpAnyH_done (by kernel_rfl) ?_ _
    have H6 := Lib.hid h6
    clear h6 h5 e0 e1 hHeld
    cases hq : typP (lookS fm) n r.t with
    | none =>
     have HN : Hid (partsP (typP (lookS fm) n) l = none) := Lib.hid (mapO_none hrm (by unfold partP; rw [hq]; rfl))
     have H7 := Lib.hid (Vw.base (p := fun W => ∀ r',partsP (typP (lookS fm) n) l = some r' → 0 = r'.length ∧ r'.length ≤ 0 ∧ kPt.C W none r'.length r') H6.out.drop.drop.two.drop.two.drop.two.drop (fun wv _ r' hr => by rw [HN.out] at hr; cases hr))
     go_wp2
     refine bodyPost_ret (v := .tuple #[.slice none 0 0,.bool false]) (by simp [results,Tryz.results38,go_sem]) rfl ⟨none,0,0,by rw [HN.out]; rfl,H7.out⟩
    | some t1 =>
     have f0 := H6.out.cell 0 rfl
     have f1 := H6.out.cell 1 rfl
     have f2 := H6.out.cell 2 rfl
     have f3 := H6.out.cell 3 rfl
     have f4 := H6.out.cell 4 rfl
     have f5 := H6.out.cell 5 rfl
     have f6 := H6.out.cell 6 rfl
     have f7 := H6.out.cell 7 rfl
     have f8 := H6.out.cell 8 rfl
     have f9 := H6.out.cell 9 rfl
     have f10 := H6.out.cell 10 rfl
     have f11 := H6.out.cell 11 rfl
     have f12 := H6.out.cell 12 rfl
     have f13 := H6.out.cell 13 rfl
     have f14 := H6.out.cell 14 rfl
     have f17 := HF.out _ H6.out.below 16 _ rfl
     go_wp2_with fail
     refine wp_region_held_drew (S := (fun W => W.cell? ⟨gx,0,none⟩ = some (.int .i64 q.k) ∧ W.cell? ⟨gx,1,none⟩ = some (.string q.n) ∧ W.cell? ⟨gx,2,none⟩ = some (.int .i64 q.c0) ∧ W.cell? ⟨gx,3,none⟩ = some (.int .i64 q.c1) ∧ W.cell? ⟨gx,4,none⟩ = some (.int .i64 q.c2) ∧ W.cell? ⟨gx,5,none⟩ = some (.bool q.c3) ∧ W.cell? ⟨gx,6,none⟩ = some (.bool q.c4) ∧ W.cell? ⟨gx,7,none⟩ = some (.slice q.A7 q.n7 q.p7) ∧ W.cell? ⟨gx,8,none⟩ = some (.bool q.e) ∧ W.cell? ⟨gx,9,none⟩ = some (.string q.fr) ∧ W.cell? ⟨gx,10,none⟩ = some (.slice q.A10 q.n10 q.p10) ∧ W.cell? ⟨gx,11,none⟩ = some (.slice q.A11 q.n11 q.p11) ∧ W.cell? ⟨gx,12,none⟩ = some (.slice q.A12 q.n12 q.p12) ∧ W.cell? ⟨gx,13,none⟩ = some (.slice q.A13 q.n13 q.p13) ∧ W.cell? ⟨gx,14,none⟩ = some (.slice q.A14 q.n14 q.p14) ∧ W.cell? ⟨(ad.add (x.toNat * 18)).block,(ad.add (x.toNat * 18)).off + 17,none⟩ = some (.slice A17 r.d.length c17))) (by kernel_rfl) ?_ (fun hHeld => ?_)
     ·exact ⟨(H6.out).cell 0 rfl,(H6.out).cell 1 rfl,(H6.out).cell 2 rfl,(H6.out).cell 3 rfl,(H6.out).cell 4 rfl,(H6.out).cell 5 rfl,(H6.out).cell 6 rfl,(H6.out).cell 7 rfl,(H6.out).cell 8 rfl,(H6.out).cell 9 rfl,(H6.out).cell 10 rfl,(H6.out).cell 11 rfl,(H6.out).cell 12 rfl,(H6.out).cell 13 rfl,(H6.out).cell 14 rfl,HF.out _ (H6.out).below 16 _ rfl⟩
     refine wpAnyH_take (i := 0) (oi := ⟨some 29,.move (.tmp 6),35,"scope.go:67",#[],none⟩) (v := ?_) rfl (by kernel_rfl) (by kernel_rfl) (by kernel_rfl) (fun _ _ _ h => h) (Or.inl ⟨by rfl, ?_⟩) (by assumption) ?_; rotate_left 1; · (intro w _; go_simp; all_goals with_reducible rfl)
     try simp only [Act.put,q3]
     refine wpAnyH_take (i := 1) (oi := ⟨some 30,.move (.tmp 7),3,"scope.go:67",#[],none⟩) (v := ?_) rfl (by kernel_rfl) (by kernel_rfl) (by kernel_rfl) (fun _ _ _ h => h) (Or.inl ⟨by rfl, ?_⟩) (by assumption) ?_; rotate_left 1; · (intro w _; go_simp; all_goals with_reducible rfl)
     try simp only [Act.put,q3]
     refine wpAnyH_take (i := 2) (oi := ⟨some 31,.move (.tmp 6),35,"scope.go:67",#[⟨13,.gcOnly (.lateStores)⟩],none⟩) (v := ?_) rfl (by kernel_rfl) (by kernel_rfl) (by kernel_rfl) (fun _ _ _ h => h) (Or.inl ⟨by rfl, ?_⟩) (by assumption) ?_; rotate_left 1; · (intro w _; go_simp; all_goals with_reducible rfl)
     try simp only [Act.put,q3]
     refine wpAnyH_take (i := 3) (oi := ⟨some 32,.move (.tmp 7),3,"scope.go:67",#[⟨13,.gcOnly (.lateStores)⟩],none⟩) (v := ?_) rfl (by kernel_rfl) (by kernel_rfl) (by kernel_rfl) (fun _ _ _ h => h) (Or.inl ⟨by rfl, ?_⟩) (by assumption) ?_; rotate_left 1; · (intro w _; go_simp; all_goals with_reducible rfl)
     try simp only [Act.put,q3]
     refine wpAnyH_take (i := 4) (oi := ⟨some 33,.load 38 (.tmp 8),38,"scope.go:67",#[],none⟩) (v := ?_) rfl (by kernel_rfl) (by kernel_rfl) (by kernel_rfl) (fun _ _ _ h => h) (Or.inl ⟨by rfl, ?_⟩) (by assumption) ?_; rotate_left 1; · (intro w hSw; (try dsimp only at hSw); go_simp; all_goals with_reducible rfl)
     try simp only [Act.put,q3]
     refine wpAnyH_take (i := 5) (oi := ⟨some 34,.move (.tmp 1),35,"scope.go:67",#[],none⟩) (v := ?_) rfl (by kernel_rfl) (by kernel_rfl) (by kernel_rfl) (fun _ _ _ h => h) (Or.inl ⟨by rfl, ?_⟩) (by assumption) ?_; rotate_left 1; · (intro w _; go_simp; all_goals with_reducible rfl)
     try simp only [Act.put,q3]
     refine wpAnyH_take (i := 6) (oi := ⟨some 35,.move (.tmp 7),3,"scope.go:67",#[],none⟩) (v := ?_) rfl (by kernel_rfl) (by kernel_rfl) (by kernel_rfl) (fun _ _ _ h => h) (Or.inl ⟨by rfl, ?_⟩) (by assumption) ?_; rotate_left 1; · (intro w _; go_simp; all_goals with_reducible rfl)
     try simp only [Act.put,q3]
     refine wpAnyH_take (i := 7) (oi := ⟨some 36,.indexAddr 35 (.tmp 34) (.tmp 35),0,"scope.go:67",#[⟨5,.data⟩,⟨6,.data⟩],none⟩) (v := ?_) rfl (by kernel_rfl) (by kernel_rfl) (by kernel_rfl) (fun _ _ _ h => h) (Or.inl ⟨by rfl, ?_⟩) (by assumption) ?_; rotate_left 1; · (intro w _; go_simp; all_goals with_reducible rfl)
     try simp only [Act.put,q3]
     refine wpAnyH_take (i := 8) (oi := ⟨some 37,.fieldAddr 83 (.tmp 36) 3,0,"scope.go:67",#[⟨7,.data⟩],none⟩) (v := ?_) rfl (by kernel_rfl) (by kernel_rfl) (by kernel_rfl) (fun _ _ _ h => h) (Or.inl ⟨by rfl, ?_⟩) (by assumption) ?_; rotate_left 1; · (intro w _; go_simp; all_goals with_reducible rfl)
     try simp only [Act.put,q3]
     refine wpAnyH_take (i := 9) (oi := ⟨some 38,.load 81 (.tmp 37),81,"scope.go:67",#[⟨8,.data⟩],none⟩) (v := ?_) rfl (by kernel_rfl) (by kernel_rfl) (by kernel_rfl) (fun _ _ _ h => h) (Or.inl ⟨by rfl, ?_⟩) (by assumption) ?_; rotate_left 1; · (intro w hSw; (try dsimp only at hSw); go_simp; all_goals with_reducible rfl)
     try simp only [Act.put,q3]
     refine wpAnyH_ready (rs := [10]) (by kernel_rfl) (by simp) ?_
     refine AllReadyH.cons (o := ⟨some 39,.call { callee := .value (.func 62),args := #[.tmp 38],argTypes := #[81] },81,"scope.go:67",#[⟨9,.data⟩],none⟩) rfl (fun K hK => ?_) AllReadyH.nil
     go_simp
     refine (clone_vals A17 c17 r.d H6.out.drew HK.out.2.2 (by simp only [M]; have := (HA.out.2.2.1 r hrm).2; omega)).mono ?_
     rintro e w7 ⟨v7,ys,rfl,hY7,h7⟩
     have hv7 : ∃ A18 p18,v7 = .slice A18 r.d.length p18 := by
      obtain ⟨-,A18,p18,e, -⟩ := h7.reads
      exact ⟨A18,p18,e⟩
     obtain ⟨A18,p18,rfl⟩ := hv7
     refine hK.out _ _ ?_ (fun hHeld => ?_)
     ·exact ⟨(h7).two.cell 0 rfl,(h7).two.cell 1 rfl,(h7).two.cell 2 rfl,(h7).two.cell 3 rfl,(h7).two.cell 4 rfl,(h7).two.cell 5 rfl,(h7).two.cell 6 rfl,(h7).two.cell 7 rfl,(h7).two.cell 8 rfl,(h7).two.cell 9 rfl,(h7).two.cell 10 rfl,(h7).two.cell 11 rfl,(h7).two.cell 12 rfl,(h7).two.cell 13 rfl,(h7).two.cell 14 rfl,HF.out _ (h7).below 16 _ rfl⟩
     clear hK K
     have h8 := Vw.row (d := kVal) (by decide) rfl (Vw.base h7 (p := fun W => Reps (kVal.K W) 5 r.d ys) fun wv hb => hY7.imp_ fun _ _ hp => kVal.K_below hb hp).two
     try simp only [Act.put,q3]
     refine wpAnyH_take (i := 11) (oi := ⟨some 40,.indexAddr 35 (.tmp 29) (.tmp 30),0,"scope.go:67",#[⟨0,.data⟩,⟨1,.data⟩,⟨0,.phase⟩,⟨1,.phase⟩,⟨2,.textOnly (.lateStores)⟩,⟨3,.textOnly (.lateStores)⟩,⟨4,.phase⟩,⟨5,.textOnly (.lateStores)⟩,⟨6,.textOnly (.lateStores)⟩,⟨7,.textOnly (.lateStoresUnsure)⟩,⟨8,.textOnly (.lateStoresUnsure)⟩,⟨9,.phase⟩,⟨10,.phase⟩],none⟩) (v := ?_) rfl (by kernel_rfl) (by kernel_rfl) (by kernel_rfl) (fun _ _ _ h => h) (Or.inl ⟨by rfl, ?_⟩) (by assumption) ?_; rotate_left 1; · (intro w _; go_simp; all_goals with_reducible rfl)
     try simp only [Act.put,q3]
     refine wpAnyH_take (i := 12) (oi := ⟨some 41,.fieldAddr 83 (.tmp 40) 1,0,"scope.go:67",#[⟨11,.data⟩,⟨0,.phase⟩,⟨1,.phase⟩,⟨2,.textOnly (.lateStores)⟩,⟨3,.textOnly (.lateStores)⟩,⟨4,.phase⟩,⟨5,.textOnly (.lateStores)⟩,⟨6,.textOnly (.lateStores)⟩,⟨7,.textOnly (.lateStoresUnsure)⟩,⟨8,.textOnly (.lateStoresUnsure)⟩,⟨9,.phase⟩,⟨10,.phase⟩],none⟩) (v := ?_) rfl (by kernel_rfl) (by kernel_rfl) (by kernel_rfl) (fun _ _ _ h => h) (Or.inl ⟨by rfl, ?_⟩) (by assumption) ?_; rotate_left 1; · (intro w _; go_simp; all_goals with_reducible rfl)
     try simp only [Act.put,q3]
     refine wpAnyH_ready (rs := [13]) (by kernel_rfl) (by simp) ?_
     refine AllReadyH.cons (o := ⟨none,.store 38 (.tmp 41) (.tmp 33),0,"scope.go:67",#[⟨12,.data⟩,⟨4,.data⟩,⟨10,.chain⟩,⟨0,.phase⟩,⟨1,.phase⟩,⟨2,.textOnly (.lateStores)⟩,⟨3,.textOnly (.lateStores)⟩,⟨4,.phase⟩,⟨5,.textOnly (.lateStores)⟩,⟨6,.textOnly (.lateStores)⟩,⟨7,.textOnly (.lateStoresUnsure)⟩,⟨8,.textOnly (.lateStoresUnsure)⟩,⟨9,.phase⟩,⟨10,.phase⟩],none⟩) rfl (fun K hK => ?_) AllReadyH.nil
     refine step_store_row (by rfl) (ty := 38) (by rfl) (x.toNat * 18 + 1) [.int .i64 q.k,.string q.n,.int .i64 q.c0,.int .i64 q.c1,.int .i64 q.c2,.bool q.c3,.bool q.c4,.slice q.A7 q.n7 q.p7,.bool q.e,.string q.fr,.slice q.A10 q.n10 q.p10,.slice q.A11 q.n11 q.p11,.slice q.A12 q.n12 q.p12,.slice q.A13 q.n13 q.p13,.slice q.A14 q.n14 q.p14] (by rfl) (by rfl) rfl (by kernel_rfl) (by simp [Value.oneCell']) (five h8) (by simp only [List.length_cons,List.length_nil]; omega) ?_
     intro w9 h9
     refine hK.out _ _ ?_ (fun hHeld => ?_)
     ·exact ⟨(h9).three.cell 0 rfl,(h9).three.cell 1 rfl,(h9).three.cell 2 rfl,(h9).three.cell 3 rfl,(h9).three.cell 4 rfl,(h9).three.cell 5 rfl,(h9).three.cell 6 rfl,(h9).three.cell 7 rfl,(h9).three.cell 8 rfl,(h9).three.cell 9 rfl,(h9).three.cell 10 rfl,(h9).three.cell 11 rfl,(h9).three.cell 12 rfl,(h9).three.cell 13 rfl,(h9).three.cell 14 rfl,HF.out _ (h9).below 16 _ rfl⟩
     clear hK K
     try simp only [Act.put]
     refine wpAnyH_take (i := 14) (oi := ⟨some 42,.indexAddr 35 (.tmp 31) (.tmp 32),0,"scope.go:67",#[⟨2,.data⟩,⟨3,.data⟩,⟨0,.phase⟩,⟨1,.phase⟩,⟨2,.phase⟩,⟨3,.phase⟩,⟨4,.phase⟩,⟨5,.phase⟩,⟨6,.phase⟩,⟨7,.phase⟩,⟨8,.phase⟩,⟨9,.phase⟩,⟨10,.phase⟩,⟨11,.phase⟩,⟨12,.phase⟩,⟨13,.phase⟩],none⟩) (v := ?_) rfl (by kernel_rfl) (by kernel_rfl) (by kernel_rfl) (fun _ _ _ h => h) (Or.inl ⟨by rfl, ?_⟩) (by assumption) ?_; rotate_left 1; · (intro w _; go_simp; all_goals with_reducible rfl)
     try simp only [Act.put,q3]
     refine wpAnyH_take (i := 15) (oi := ⟨some 43,.fieldAddr 83 (.tmp 42) 3,0,"scope.go:67",#[⟨14,.data⟩,⟨0,.phase⟩,⟨1,.phase⟩,⟨2,.phase⟩,⟨3,.phase⟩,⟨4,.phase⟩,⟨5,.phase⟩,⟨6,.phase⟩,⟨7,.phase⟩,⟨8,.phase⟩,⟨9,.phase⟩,⟨10,.phase⟩,⟨11,.phase⟩,⟨12,.phase⟩,⟨13,.phase⟩],none⟩) (v := ?_) rfl (by kernel_rfl) (by kernel_rfl) (by kernel_rfl) (fun _ _ _ h => h) (Or.inl ⟨by rfl, ?_⟩) (by assumption) ?_; rotate_left 1; · (intro w _; go_simp; all_goals with_reducible rfl)
     try simp only [Act.put,q3]
     refine wpAnyH_ready (rs := [16]) (by kernel_rfl) (by simp) ?_
     refine AllReadyH.cons (o := ⟨none,.store 81 (.tmp 43) (.tmp 39),0,"scope.go:67",#[⟨15,.data⟩,⟨10,.data⟩,⟨13,.chain⟩,⟨0,.phase⟩,⟨1,.phase⟩,⟨2,.phase⟩,⟨3,.phase⟩,⟨4,.phase⟩,⟨5,.phase⟩,⟨6,.phase⟩,⟨7,.phase⟩,⟨8,.phase⟩,⟨9,.phase⟩,⟨10,.phase⟩,⟨11,.phase⟩,⟨12,.phase⟩,⟨13,.phase⟩],none⟩) rfl (fun K hK => ?_) AllReadyH.nil
     refine step_store_row (by rfl) (ty := 81) (by rfl) (x.toNat * 18 + 17) [.slice A18 r.d.length p18] (by rfl) (by rfl) rfl (by kernel_rfl) (by simp [Value.oneCell']) h9 (by simp only [List.length_cons,List.length_nil]; omega) ?_
     intro w10 h10
     refine hK.out _ _ ?_ (fun hHeld => ?_)
     ·exact ⟨(h10).three.cell 0 rfl,(h10).three.cell 1 rfl,(h10).three.cell 2 rfl,(h10).three.cell 3 rfl,(h10).three.cell 4 rfl,(h10).three.cell 5 rfl,(h10).three.cell 6 rfl,(h10).three.cell 7 rfl,(h10).three.cell 8 rfl,(h10).three.cell 9 rfl,(h10).three.cell 10 rfl,(h10).three.cell 11 rfl,(h10).three.cell 12 rfl,(h10).three.cell 13 rfl,(h10).three.cell 14 rfl,HF.out _ (h10).below 16 _ rfl⟩
     clear hK K
     try simp only [Act.put]
     refine wpAnyH_done (by kernel_rfl) ?_ _
     have hj : x.toNat < l.length := by omega
     have hylen : y.length = x.toNat := by rw [mapO_len _ _ _ HY.out,List.length_take]; omega
     have hxkl : xk.length = l.length * 18 := HR.out.rowLen
     have h11 := four (Vw.map (Vw.join (Vw.join (five h10.three.drop).three).three) (q := fun W => Reps (kPt.K W) 18 ((y ++ [⟨r.n,t1,r.o,r.d⟩]) ++ l.drop (x.toNat + 1)) (xk2 xk [.int .i64 q.k,.string q.n,.int .i64 q.c0,.int .i64 q.c1,.int .i64 q.c2,.bool q.c3,.bool q.c4,.slice q.A7 q.n7 q.p7,.bool q.e,.string q.fr,.slice q.A10 q.n10 q.p10,.slice q.A11 q.n11 q.p11,.slice q.A12 q.n12 q.p12,.slice q.A13 q.n13 q.p13,.slice q.A14 q.n14 q.p14] (x.toNat * 18) (.slice A18 r.d.length p18))) fun wv _ hp => by
      obtain ⟨h1,⟨A,c,e,h2, -,h3⟩,h4⟩ := hp
      cases e
      exact part_set HX.out HG.out hxkl HT.out hylen h4 (h1 _ hq) h2 h3).two
     have H11 := Lib.hid h11.three.three
     have e1 : (x + 1).toNat = x.toNat + 1 := by omega
     have HY2 : Hid (mapO (partP (typP (lookS fm) n)) (l.take (x + 1).toNat) = some (y ++ [⟨r.n,t1,r.o,r.d⟩])) := Lib.hid (by
      rw [e1]
      exact mapO_take HG.out HY.out (by unfold partP; rw [hq]; rfl))
     have HT2 := Lib.hid (part_behind (ts := [.int .i64 q.k,.string q.n,.int .i64 q.c0,.int .i64 q.c1,.int .i64 q.c2,.bool q.c3,.bool q.c4,.slice q.A7 q.n7 q.p7,.bool q.e,.string q.fr,.slice q.A10 q.n10 q.p10,.slice q.A11 q.n11 q.p11,.slice q.A12 q.n12 q.p12,.slice q.A13 q.n13 q.p13,.slice q.A14 q.n14 q.p14]) HX.out HG.out hxkl HT.out rfl (.slice A18 r.d.length p18))
     rw [← e1] at H11 HT2
     clear h11 h10 h9 h8 h7 hHeld
     go_wp2
     exact ⟨⟨x + 1,_,_,by omega,by omega,by go_num,H11,HY2,HT2⟩,by simp only [intOf]; omega⟩
  ·have hlt' : (x < (l.length : Int)) = False := eq_false hlt
   have e1 : l.take x.toNat = l := List.take_of_length_le (by omega)
   have e2 : l.drop x.toNat = [] := List.drop_of_length_le (by omega)
   have HY2 : Hid (partsP (typP (lookS fm) n) l = some y) := Lib.hid (by have := HY.out; rwa [e1] at this)
   have hylen : l.length = y.length := (mapO_len _ _ _ HY2.out).symm
   have h12 := HR.out
   rw [e2,List.append_nil] at h12
   have H12 := Lib.hid (Vw.map (Vw.row (d := kPt) (by decide) hylen h12) (q := fun W => ∀ r',partsP (typP (lookS fm) n) l = some r' → l.length = r'.length ∧ r'.length ≤ p1 ∧ kPt.C W B1 r'.length r') fun wv _ hp r' hr => by
    obtain ⟨A',c',e,h1, -,h3⟩ := hp
    rw [HY2.out] at hr
    cases hr
    simp only [Value.slice.injEq] at e
    obtain ⟨rfl, -,rfl⟩ := e
    exact ⟨hylen,h1,h3⟩).two.drop
   clear h12 hylen
   go_wp2
   refine bodyPost_ret (v := .tuple #[.slice B1 l.length p1,.bool true]) (by simp [results,Tryz.results38,go_sem]) rfl ⟨B1,l.length,p1,by rw [HY2.out]; rfl,H12.out⟩
end Go.Proofs.YtbjddomocggjmaaGreat.Sc
