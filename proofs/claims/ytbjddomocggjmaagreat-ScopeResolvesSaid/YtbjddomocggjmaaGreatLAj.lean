/- named of the reference of layer 10, at a name: walked. -/
import Derived.Test.YtbjddomocggjmaaGreatLS
import Derived.Test.YtbjddomocggjmaaGreatLAi
section
namespace Go.Proofs.YtbjddomocggjmaaGreat.Sc
open Go.RowKit Go.ChangeShapes Go.WideShapes Go.Proofs.YtbjddomocggjmaaGreat.Sep
open Go.Proofs.YtbjddomocggjmaaGreatW.PrintWords
variable {B : Nat} {w0 w : World} {R : HP}
def rlook (m : Md) (k : List UInt8) : Option ByteArray := if (ownR m ⟨k.toArray⟩ || m.im.any (hasI ⟨k.toArray⟩)) = true then some (fullP m ⟨k.toArray⟩) else none
def NmAt (w0 : World) (m : Md) (mc : List Value) (n : Nat) : Prop := ∀ (W : World) (Q : HP) (t : Ty) (cs : List Value),S w0 W Q → kTy.K w0 t cs → oTy t → shapedB n t = true →
 Calls Tryz.prog 21 #[.agg mc.toArray,.agg cs.toArray] W fun e w' => ∃ qs : List Value,qs.length = 15 ∧ (∀ u ∈ qs,u.oneCell' = true) ∧ e = .returned (.tuple #[.agg qs.toArray,.bool (typP (rlook m) n t).isSome]) ∧
  S w0 w' (Vw w0 w0.heap.size (fun W => ∀ r,typP (rlook m) n t = some r → kTy.K W r qs) • Q)
theorem blk_cellsR {B : Nat} {g : Nat} {e : TypeId} {cs : List Value} (h : St B w0 w (Blk g (.cells cs.toArray e) • R)) : ∀ (j : Nat) (v : Value),cs[j]? = some v → w.cell? ((⟨g,0,none⟩ : Addr).add j) = some v := fun j v hv => by
 rw [Sep.add_plain]
 exact h.cell j (by simpa using hv)
theorem oTyP {t : Ty} (h : oTy t) : (oL t.ps ∧ ∀ p ∈ t.ps,oPt oTy p) ∧ (oL t.ad ∧ ∀ p ∈ t.ad,oPt oTy p) ∧ (oL t.el ∧ ∀ x ∈ t.el,oTy x) ∧ oS t.n := by
 obtain ⟨-,h1, -,h3,h4,h5,h6,h7,h8, -⟩ := h 1
 refine ⟨⟨h6.1,fun p hp => ?_⟩,⟨h7.1,fun p hp => ?_⟩,⟨h8,fun x hx d => (h (d + 1)).2.2.2.2.2.2.2.2.2 x hx⟩,h1⟩
 ·have q := h6.2 p hp
  exact ⟨q.1,fun d => ((h (d + 1)).2.2.2.2.2.2.1.2 p hp).2.1,q.2.2⟩
 ·have q := h7.2 p hp
  exact ⟨q.1,fun d => ((h (d + 1)).2.2.2.2.2.2.2.1.2 p hp).2.1,q.2.2⟩
theorem part_put {a b c : Value} {ts qs : List Value} (ht : ts.length = 15) (hq : qs.length = 15) : ((([a] ++ (ts ++ [b,c])).toArray.toList.take 1 ++ qs ++ ([a] ++ (ts ++ [b,c])).toArray.toList.drop (1 + qs.length))).toArray = ([a] ++ (qs ++ [b,c])).toArray := by
 rw [hq]
 have e1 : ([a] ++ (ts ++ [b,c])).toArray.toList.take 1 = [a] := by simp
 have e2 : ([a] ++ (ts ++ [b,c])).toArray.toList.drop (1 + 15) = [b,c] := by
  show ((a :: (ts ++ [b,c])).drop 16) = [b,c]
  rw [List.drop_succ_cons,List.drop_left' ht]
 rw [e1,e2,List.append_assoc]
set_option maxHeartbeats 16000000 in
set_option maxRecDepth 100000 in
theorem rparts_calls (m : Md) (mc : List Value) (hmc : kMd.K w0 m mc) (n : Nat) (ih : NmAt w0 m mc n) (A : Option Addr) (c : Nat) (l : List (Pt Ty)) (h : S w0 w R) (hC : kPt.C w0 A l.length l) (ho : ∀ p ∈ l,oPt oTy p) (hl : l.length ≤ 256) (hs : ∀ p ∈ l,shapedB n p.t = true) :
  Calls Tryz.prog 46 #[.agg mc.toArray,.slice A l.length c] w fun e w' => ∃ A' n' c',e = .returned (.tuple #[.slice A' n' c',.bool (partsP (typP (rlook m) n) l).isSome]) ∧
   S w0 w' (Vw w0 w0.heap.size (fun W => ∀ r,partsP (typP (rlook m) n) l = some r → n' = r.length ∧ r.length ≤ c' ∧ kPt.C W A' r.length r) • R) := by
 have hl' : l.length ≤ 9223372036854775807 := by omega
 have HM : Hid (kMd.K w0 m mc ∧ mc.length = 4) := Lib.hid (And.intro hmc (kMd.K_len hmc))
 have HA := Lib.hid (And.intro hC (And.intro ho (And.intro hs hl)))
 have HI := Lib.hid ih
 generalize hg : w.heap.size = g
 have H : Hid (S w0 _ (RowV 83 18 (.slice none 0 0) ([] : List (Pt Ty)).length [] • (Vw w0 w0.heap.size (fun W => Reps (kPt.K W) 18 ([] : List (Pt Ty)) []) • (Blk g (.cells mc.toArray 44) • R)))) := Lib.hid ((Vw.base (alloc_at (n := g) h (.cells mc.toArray 44) hg.symm) (fun wv _ => Reps.none _ _)).nil _ _)
 clear h hC ho hs ih hmc
 go_enter Tryz.func46,Tryz.ntmps46
 go_wp2
 go_loopw [6,7] (fun vo v wr => ∃ (va : Value) (x : Int) (y : List (Pt Ty)) (xk : List Value),va = vo ∧ 0 ≤ x ∧ x ≤ l.length ∧ v = .int .i64 x ∧ Hid (S w0 wr (RowV 83 18 va y.length xk • (Vw w0 w0.heap.size (fun W => Reps (kPt.K W) 18 y xk) • (Blk g (.cells mc.toArray 44) • R)))) ∧ Hid (mapO (partP (typP (rlook m) n)) (l.take x.toNat) = some y)) (fun _ v _ => l.length - (intOf v).toNat)
 case atStart => exact ⟨_,0,[],[],rfl,Int.le_refl _,by omega,rfl,H,Lib.hid rfl⟩
 case round =>
  clear H
  obtain ⟨va,x,y,xk,rfl,hx0,hx1,rfl,HR,HY⟩ := hrel
  by_cases hlt : x < l.length
  ·obtain ⟨ad,pcs,eA,hcl0,hK,hcell0⟩ := Kd.C_get HA.out.1 zPt x hx0 hlt
   cases eA
   have hcell : ∀ (j : Nat) (u : Value),pcs[j]? = some u → w0.cell? (ad.add (x.toNat * 18 + j)) = some u := hcell0
   have HG := Lib.hid (getD_mem l zPt x hx0 hlt)
   generalize l.getD x.toNat zPt = r at *
   have hrm := List.mem_of_getElem? HG.out
   have HP1 := Lib.hid (kPt.K_one hK)
   obtain ⟨ts,A17,c17,rfl,hTy,l17,g17⟩ := kPt_open (show kPt.K w0 r pcs from hK)
   have HK : Hid (kTy.K w0 r.t ts ∧ ts.length = 15) := Lib.hid (And.intro hTy (kTy.K_len hTy))
   have HV := Lib.hid (And.intro l17 g17)
   have HO := Lib.hid (And.intro (HA.out.2.1 r hrm).2.1 (HA.out.2.2.1 r hrm))
   have HF : Hid (∀ W,Below w0.heap.size w0 W → ∀ (j : Nat) (v : Value),ts[j]? = some v → W.cell? ((⟨(ad.add (x.toNat * 18)).block,(ad.add (x.toNat * 18)).off + 1,none⟩ : Addr).add j) = some v) := Lib.hid fun W hW j v hv => by
    have := pw_cell_below hW (hcell (1 + j) v (by rw [Nat.add_comm]; show (ts ++ _)[j]? = _; rw [List.getElem?_append_left (by have := (List.getElem?_eq_some_iff.1 hv).1; omega)]; exact hv))
    rw [add_field ad _ _ (by omega), ← Nat.add_assoc] at this
    rw [WideShapes.add_plain]; exact this
   have HCl : Hid (∀ W,Below w0.heap.size w0 W → ∀ (j : Nat) (v : Value),([.string r.n] ++ (ts ++ [.bool r.o,.slice A17 r.d.length c17]) : List Value)[j]? = some v → W.cell? ((ad.add (x.toNat * 18)).add j) = some v) := Lib.hid fun W hW => elem_cells hW hcell0
   have p126 := eq_true hx0
   have q126 : (x < (l.length : Int)) = True := eq_true hlt
   clear hcell hcell0 hcl0 hTy l17 g17 hK
   go_upto_region 5 with fail
   try simp only [Act.put]
   go_cut [8,9] from 17 to 26 (fun s8 s9 wx => ∃ (gx : Nat) (qs : List Value),s8 = .pointer (some ⟨gx,0,none⟩) ∧ s9 = .bool (typP (rlook m) n r.t).isSome ∧ Hid (qs.length = 15 ∧ ∀ u ∈ qs,u.oneCell' = true) ∧ Hid (S w0 wx (Blk gx (.cells qs.toArray 38) • (Vw w0 w0.heap.size (fun W => ∀ r',typP (rlook m) n r.t = some r' → kTy.K W r' qs) • (RowV 83 18 va y.length xk • (Vw w0 w0.heap.size (fun W => Reps (kPt.K W) 18 y xk) • (Blk g (.cells mc.toArray 44) • R)))))))
   case first =>
    refine wp_region_held_drew (S := fun W => Hid (∀ (j : Nat) (v : Value),mc[j]? = some v → W.cell? ((⟨g,0,none⟩ : Addr).add j) = some v) ∧ Hid (∀ (j : Nat) (v : Value),ts[j]? = some v → W.cell? ((⟨(ad.add (x.toNat * 18)).block,(ad.add (x.toNat * 18)).off + 1,none⟩ : Addr).add j) = some v) ∧ True) (by kernel_rfl) ?_ (fun hHeld => ?_)
    ·exact ⟨Lib.hid (blk_cellsR (HR.out.drew).drop.drop),Lib.hid (HF.out _ (HR.out.drew).below),trivial⟩
    refine wpAnyH_take (i := 0) (oi := ⟨some 18,.load 44 (.tmp 2),44,"ref.go:72",#[],none⟩) (v := .agg (mc : List Value).toArray) rfl (by kernel_rfl) (by kernel_rfl) (by kernel_rfl) (fun _ _ _ h => h) (yields_loadR (by rfl) 44 _ rfl (⟨g,0,none⟩) rfl mc (fun w hS => hS.1.out) _ Tryz.underlying44 rfl (by rw [HM.out.2]; kernel_rfl)) (by assumption) ?_
    try simp only [Act.put,List.setIfInBounds_toArray,List.set_cons_succ,List.set_cons_zero]
    refine wpAnyH_take (i := 1) (oi := ⟨some 19,.move (.tmp 1),35,"ref.go:72",#[],none⟩) (v := ?_) rfl (by kernel_rfl) (by kernel_rfl) (by kernel_rfl) (fun _ _ _ h => h) (Or.inl ⟨by rfl, ?_⟩) (by assumption) ?_
    rotate_left 1
    ·intro w hSw
     try dsimp only at hSw
     go_simp
     all_goals with_reducible rfl
    try simp only [Act.put,List.setIfInBounds_toArray,List.set_cons_succ,List.set_cons_zero]
    refine wpAnyH_take (i := 2) (oi := ⟨some 20,.move (.tmp 7),3,"ref.go:72",#[],none⟩) (v := ?_) rfl (by kernel_rfl) (by kernel_rfl) (by kernel_rfl) (fun _ _ _ h => h) (Or.inl ⟨by rfl, ?_⟩) (by assumption) ?_
    rotate_left 1
    ·intro w hSw
     try dsimp only at hSw
     go_simp
     all_goals with_reducible rfl
    try simp only [Act.put,List.setIfInBounds_toArray,List.set_cons_succ,List.set_cons_zero]
    refine wpAnyH_take (i := 3) (oi := ⟨some 21,.indexAddr 35 (.tmp 19) (.tmp 20),0,"ref.go:72",#[⟨1,.data⟩,⟨2,.data⟩],none⟩) (v := ?_) rfl (by kernel_rfl) (by kernel_rfl) (by kernel_rfl) (fun _ _ _ h => h) (Or.inl ⟨by rfl, ?_⟩) (by assumption) ?_
    rotate_left 1
    ·intro w hSw
     try dsimp only at hSw
     go_simp
     all_goals with_reducible rfl
    try simp only [Act.put,List.setIfInBounds_toArray,List.set_cons_succ,List.set_cons_zero]
    refine wpAnyH_take (i := 4) (oi := ⟨some 22,.fieldAddr 83 (.tmp 21) 1,0,"ref.go:72",#[⟨3,.data⟩],none⟩) (v := ?_) rfl (by kernel_rfl) (by kernel_rfl) (by kernel_rfl) (fun _ _ _ h => h) (Or.inl ⟨by rfl, ?_⟩) (by assumption) ?_
    rotate_left 1
    ·intro w hSw
     try dsimp only at hSw
     go_simp
     all_goals with_reducible rfl
    try simp only [Act.put,List.setIfInBounds_toArray,List.set_cons_succ,List.set_cons_zero]
    refine wpAnyH_take (i := 5) (oi := ⟨some 23,.load 38 (.tmp 22),38,"ref.go:72",#[⟨4,.data⟩],none⟩) (v := .agg (ts : List Value).toArray) rfl (by kernel_rfl) (by kernel_rfl) (by kernel_rfl) (fun _ _ _ h => h) (yields_loadR (by rfl) 38 _ rfl (⟨(ad.add (x.toNat * 18)).block,(ad.add (x.toNat * 18)).off + 1,none⟩) rfl ts (fun w hS => hS.2.1.out) _ Tryz.underlying38 rfl (by rw [HK.out.2]; kernel_rfl)) (by assumption) ?_
    try simp only [Act.put,List.setIfInBounds_toArray,List.set_cons_succ,List.set_cons_zero]
    refine wpAnyH_ready (rs := [6,10]) (by kernel_rfl) (by simp) ?_
    refine AllReadyH.cons (o := ⟨some 24,.call { callee := .value (.func 21),args := #[.tmp 18,.tmp 23],argTypes := #[44,38] },62,"ref.go:72",#[⟨0,.data⟩,⟨5,.data⟩],none⟩) rfl (fun K hK => ?_) (AllReadyH.cons (o := ⟨some 8,.alloc 38,0,"ref.go:72",#[],none⟩) rfl (fun K hK => ?_) AllReadyH.nil)
    ·go_simp
     refine (HI.out _ _ r.t ts HR.out.drew HK.out.1 HO.out.1 HO.out.2).mono ?_
     rintro e w5 ⟨qs,hq1,hq2,rfl,h5⟩
     refine hK.out _ _ ?_ (fun hHeld => ?_)
     ·exact ⟨Lib.hid (blk_cellsR (h5).drop.drop.drop),Lib.hid (HF.out _ (h5).below),trivial⟩
     clear hK K
     try simp only [Act.put,List.setIfInBounds_toArray,List.set_cons_succ,List.set_cons_zero]
     refine wpAnyH_take (i := 7) (oi := ⟨some 17,.move (.tmp 24),62,"ref.go:72",#[⟨6,.data⟩],none⟩) (v := ?_) rfl (by kernel_rfl) (by kernel_rfl) (by kernel_rfl) (fun _ _ _ h => h) (Or.inl ⟨by rfl, ?_⟩) (by assumption) ?_
     rotate_left 1
     ·intro w hSw
      try dsimp only at hSw
      go_simp
      all_goals with_reducible rfl
     try simp only [Act.put,List.setIfInBounds_toArray,List.set_cons_succ,List.set_cons_zero]
     refine wpAnyH_take (i := 8) (oi := ⟨some 25,.extract (.tmp 17) 0,38,"ref.go:72",#[⟨7,.data⟩],none⟩) (v := ?_) rfl (by kernel_rfl) (by kernel_rfl) (by kernel_rfl) (fun _ _ _ h => h) (Or.inl ⟨by rfl, ?_⟩) (by assumption) ?_
     rotate_left 1
     ·intro w hSw
      try dsimp only at hSw
      go_simp
      all_goals with_reducible rfl
     try simp only [Act.put,List.setIfInBounds_toArray,List.set_cons_succ,List.set_cons_zero]
     refine wpAnyH_take (i := 9) (oi := ⟨some 26,.extract (.tmp 17) 1,4,"ref.go:72",#[⟨7,.data⟩, { on := 11,ground := Ground.gcOnly Departure.lateStores }],none⟩) (v := ?_) rfl (by kernel_rfl) (by kernel_rfl) (by kernel_rfl) (fun _ _ _ h => h) (Or.inl ⟨by rfl, ?_⟩) (by assumption) ?_
     rotate_left 1
     ·intro w hSw
      try dsimp only at hSw
      go_simp
      all_goals with_reducible rfl
     try simp only [Act.put,List.setIfInBounds_toArray,List.set_cons_succ,List.set_cons_zero]
     refine wpAnyH_ready (rs := [10]) (by kernel_rfl) (by simp) ?_
     refine AllReadyH.cons (o := ⟨some 8,.alloc 38,0,"ref.go:72",#[],none⟩) rfl (fun K hK => ?_) AllReadyH.nil
     go_simp
     generalize hgx : w5.heap.size = gx
     have h4 := alloc_at (n := gx) h5 (.cells #[.int .i64 0,.string ⟨#[]⟩,.int .i64 0,.int .i64 0,.int .i64 0,.bool false,.bool false,.slice none 0 0,.bool false,.string ⟨#[]⟩,.slice none 0 0,.slice none 0 0,.slice none 0 0,.slice none 0 0,.slice none 0 0] 38) hgx.symm
     refine hK.out _ _ ?_ (fun hHeld => ?_)
     ·exact ⟨Lib.hid (blk_cellsR (h4).drop.drop.drop.drop),Lib.hid (HF.out _ (h4).below),trivial⟩
     clear hK K
     try simp only [Act.put,List.setIfInBounds_toArray,List.set_cons_succ,List.set_cons_zero]
     refine wpAnyH_ready (rs := [11]) (by kernel_rfl) (by simp) ?_
     refine AllReadyH.cons (o := ⟨none,.store 38 (.tmp 8) (.tmp 25),0,"ref.go:72",#[⟨10,.data⟩,⟨8,.data⟩,⟨6,.chain⟩,⟨0,.phase⟩,⟨1,.phase⟩,⟨2,.phase⟩,⟨3,.phase⟩,⟨4,.phase⟩,⟨5,.phase⟩,⟨6,.phase⟩,⟨7,.phase⟩,⟨8,.phase⟩, { on := 9,ground := Ground.textOnly Departure.lateStores },⟨10,.phase⟩],none⟩) rfl (fun K hK => ?_) AllReadyH.nil
     refine step_store_blk (by rfl) (ty := 38) (by rfl) qs (by rfl) (by rfl) rfl (by rw [hq1]; kernel_rfl) hq2 h4 (by rw [hq1]; rfl) ?_
     intro w6 h6
     refine hK.out _ _ ?_ (fun hHeld => ?_)
     ·exact ⟨Lib.hid (blk_cellsR (h6).drop.drop.drop.drop),Lib.hid (HF.out _ (h6).below),trivial⟩
     clear hK K
     try simp only [Act.put,List.setIfInBounds_toArray,List.set_cons_succ,List.set_cons_zero]
     refine wpAnyH_take (i := 12) (oi := ⟨some 9,.assign (.tmp 26),4,"ref.go:72",#[⟨9,.data⟩,⟨11,.chain⟩,⟨0,.phase⟩,⟨1,.phase⟩,⟨2,.phase⟩,⟨3,.phase⟩,⟨4,.phase⟩,⟨5,.phase⟩,⟨6,.phase⟩,⟨7,.phase⟩,⟨8,.phase⟩,⟨9,.phase⟩,⟨10,.phase⟩,⟨11,.phase⟩],none⟩) (v := ?_) rfl (by kernel_rfl) (by kernel_rfl) (by kernel_rfl) (fun _ _ _ h => h) (Or.inl ⟨by rfl, ?_⟩) (by assumption) ?_
     rotate_left 1
     ·intro w hSw
      try dsimp only at hSw
      go_simp
      all_goals with_reducible rfl
     try simp only [Act.put,List.setIfInBounds_toArray,List.set_cons_succ,List.set_cons_zero]
     refine wpAnyH_done (by kernel_rfl) ?_ _
     go_wp2_with fail
     go_meet
     exact ⟨_,_,rfl,rfl,Lib.hid ⟨hq1,hq2⟩,Lib.hid h6⟩
    ·go_simp
     generalize hgx : wr.heap.size = gx
     have h4 := (alloc_at (n := gx) HR.out (.cells #[.int .i64 0,.string ⟨#[]⟩,.int .i64 0,.int .i64 0,.int .i64 0,.bool false,.bool false,.slice none 0 0,.bool false,.string ⟨#[]⟩,.slice none 0 0,.slice none 0 0,.slice none 0 0,.slice none 0 0,.slice none 0 0] 38) hgx.symm).drew
     refine hK.out _ _ ?_ (fun hHeld => ?_)
     ·exact ⟨Lib.hid (blk_cellsR (h4).drop.drop.drop),Lib.hid (HF.out _ (h4).below),trivial⟩
     clear hK K
     try simp only [Act.put,List.setIfInBounds_toArray,List.set_cons_succ,List.set_cons_zero]
     refine wpAnyH_ready (rs := [6]) (by kernel_rfl) (by simp) ?_
     refine AllReadyH.cons (o := ⟨some 24,.call { callee := .value (.func 21),args := #[.tmp 18,.tmp 23],argTypes := #[44,38] },62,"ref.go:72",#[⟨0,.data⟩,⟨5,.data⟩],none⟩) rfl (fun K hK => ?_) AllReadyH.nil
     go_simp
     refine (HI.out _ _ r.t ts h4 HK.out.1 HO.out.1 HO.out.2).mono ?_
     rintro e w5 ⟨qs,hq1,hq2,rfl,h5⟩
     refine hK.out _ _ ?_ (fun hHeld => ?_)
     ·exact ⟨Lib.hid (blk_cellsR (h5).drop.drop.drop.drop),Lib.hid (HF.out _ (h5).below),trivial⟩
     clear hK K
     try simp only [Act.put,List.setIfInBounds_toArray,List.set_cons_succ,List.set_cons_zero]
     refine wpAnyH_take (i := 7) (oi := ⟨some 17,.move (.tmp 24),62,"ref.go:72",#[⟨6,.data⟩],none⟩) (v := ?_) rfl (by kernel_rfl) (by kernel_rfl) (by kernel_rfl) (fun _ _ _ h => h) (Or.inl ⟨by rfl, ?_⟩) (by assumption) ?_
     rotate_left 1
     ·intro w hSw
      try dsimp only at hSw
      go_simp
      all_goals with_reducible rfl
     try simp only [Act.put,List.setIfInBounds_toArray,List.set_cons_succ,List.set_cons_zero]
     refine wpAnyH_take (i := 8) (oi := ⟨some 25,.extract (.tmp 17) 0,38,"ref.go:72",#[⟨7,.data⟩],none⟩) (v := ?_) rfl (by kernel_rfl) (by kernel_rfl) (by kernel_rfl) (fun _ _ _ h => h) (Or.inl ⟨by rfl, ?_⟩) (by assumption) ?_
     rotate_left 1
     ·intro w hSw
      try dsimp only at hSw
      go_simp
      all_goals with_reducible rfl
     try simp only [Act.put,List.setIfInBounds_toArray,List.set_cons_succ,List.set_cons_zero]
     refine wpAnyH_take (i := 9) (oi := ⟨some 26,.extract (.tmp 17) 1,4,"ref.go:72",#[⟨7,.data⟩, { on := 11,ground := Ground.gcOnly Departure.lateStores }],none⟩) (v := ?_) rfl (by kernel_rfl) (by kernel_rfl) (by kernel_rfl) (fun _ _ _ h => h) (Or.inl ⟨by rfl, ?_⟩) (by assumption) ?_
     rotate_left 1
     ·intro w hSw
      try dsimp only at hSw
      go_simp
      all_goals with_reducible rfl
     try simp only [Act.put,List.setIfInBounds_toArray,List.set_cons_succ,List.set_cons_zero]
     refine wpAnyH_ready (rs := [11]) (by kernel_rfl) (by simp) ?_
     refine AllReadyH.cons (o := ⟨none,.store 38 (.tmp 8) (.tmp 25),0,"ref.go:72",#[⟨10,.data⟩,⟨8,.data⟩,⟨6,.chain⟩,⟨0,.phase⟩,⟨1,.phase⟩,⟨2,.phase⟩,⟨3,.phase⟩,⟨4,.phase⟩,⟨5,.phase⟩,⟨6,.phase⟩,⟨7,.phase⟩,⟨8,.phase⟩, { on := 9,ground := Ground.textOnly Departure.lateStores },⟨10,.phase⟩],none⟩) rfl (fun K hK => ?_) AllReadyH.nil
     refine step_store_blk (by rfl) (ty := 38) (by rfl) qs (by rfl) (by rfl) rfl (by rw [hq1]; kernel_rfl) hq2 h5.two (by rw [hq1]; rfl) ?_
     intro w6 h6
     refine hK.out _ _ ?_ (fun hHeld => ?_)
     ·exact ⟨Lib.hid (blk_cellsR (h6).drop.drop.drop.drop),Lib.hid (HF.out _ (h6).below),trivial⟩
     clear hK K
     try simp only [Act.put,List.setIfInBounds_toArray,List.set_cons_succ,List.set_cons_zero]
     refine wpAnyH_take (i := 12) (oi := ⟨some 9,.assign (.tmp 26),4,"ref.go:72",#[⟨9,.data⟩,⟨11,.chain⟩,⟨0,.phase⟩,⟨1,.phase⟩,⟨2,.phase⟩,⟨3,.phase⟩,⟨4,.phase⟩,⟨5,.phase⟩,⟨6,.phase⟩,⟨7,.phase⟩,⟨8,.phase⟩,⟨9,.phase⟩,⟨10,.phase⟩,⟨11,.phase⟩],none⟩) (v := ?_) rfl (by kernel_rfl) (by kernel_rfl) (by kernel_rfl) (fun _ _ _ h => h) (Or.inl ⟨by rfl, ?_⟩) (by assumption) ?_
     rotate_left 1
     ·intro w hSw
      try dsimp only at hSw
      go_simp
      all_goals with_reducible rfl
     try simp only [Act.put,List.setIfInBounds_toArray,List.set_cons_succ,List.set_cons_zero]
     refine wpAnyH_done (by kernel_rfl) ?_ _
     go_wp2_with fail
     go_meet
     exact ⟨_,_,rfl,rfl,Lib.hid ⟨hq1,hq2⟩,Lib.hid h6⟩
   case rest =>
    obtain ⟨gx,qs,rfl,rfl,HQ,H6⟩ := hcut
    clear HR
    cases hq : typP (rlook m) n r.t with
    | none =>
     have HN : Hid (partsP (typP (rlook m) n) l = none) := Lib.hid (mapO_none hrm (by unfold partP; rw [hq]; rfl))
     have H7 := Lib.hid (Vw.base (p := fun W => ∀ r',partsP (typP (rlook m) n) l = some r' → 0 = r'.length ∧ r'.length ≤ 0 ∧ kPt.C W none r'.length r') H6.out.drop.drop.drop.drop.drop (fun wv _ r' hr => by rw [HN.out] at hr; cases hr))
     clear hq
     go_wp2
     refine bodyPost_ret (v := .tuple #[.slice none 0 0,.bool false]) (by simp [results,Tryz.results46,go_sem]) rfl ⟨none,0,0,by rw [HN.out]; rfl,H7.out⟩
    | some t1 =>
     have HQT := Lib.hid hq
     clear hq
     go_wp2_with (refine held_load 83 _ rfl ?_)
     refine ⟨?_⟩
     refine wpList_load_cells rfl 83 _ rfl _ rfl ([.string r.n] ++ (ts ++ [.bool r.o,.slice A17 r.d.length c17])) (HCl.out _ H6.out.below) _ Tryz.underlying83 rfl (by simp only [List.length_append,List.length_cons,List.length_nil,HK.out.2]; kernel_rfl) ?_
     go_wp2_with (refine held_store _ _ _ rfl ?_)
     refine ⟨?_⟩
     refine wpList_store_off rfl rfl ([.string r.n] ++ (ts ++ [.bool r.o,.slice A17 r.d.length c17])) rfl rfl rfl (by simp only [List.length_append,List.length_cons,List.length_nil,HK.out.2]; kernel_rfl) HP1.out (H6.out.alloc _) (by simp [HK.out.2]) (new := (([.string r.n] ++ (ts ++ [.bool r.o,.slice A17 r.d.length c17])) : List Value).toArray) (fill_all (by simp [HK.out.2])) ?_
     intro w7 h7
     generalize wc.heap.size = gy at h7 ⊢
     have H7 := Lib.hid h7
     clear h7 H6
     go_wp2_with (refine held_load 38 _ rfl ?_)
     refine ⟨?_⟩
     refine wpList_load_cells rfl 38 _ rfl _ rfl qs (blk_cellsR H7.out.two) _ Tryz.underlying38 rfl (by rw [HQ.out.1]; kernel_rfl) ?_
     go_wp2_with (refine held_store _ _ _ rfl ?_)
     refine ⟨?_⟩
     refine wpList_store_off rfl rfl qs rfl rfl rfl (by rw [HQ.out.1]; kernel_rfl) HQ.out.2 H7.out (by rw [HQ.out.1]; simp [HK.out.2]) (new := (([.string r.n] ++ (qs ++ [.bool r.o,.slice A17 r.d.length c17])) : List Value).toArray) (part_put HK.out.2 HQ.out.1) ?_
     intro w8 h8
     have H8 := Lib.hid h8
     clear h8 H7
     go_wp2_with (refine held_load 83 _ rfl ?_)
     refine ⟨?_⟩
     refine wpList_load_cells rfl 83 _ rfl _ rfl ([.string r.n] ++ (qs ++ [.bool r.o,.slice A17 r.d.length c17])) (blk_cellsR H8.out) _ Tryz.underlying83 rfl (by simp only [List.length_append,List.length_cons,List.length_nil,HQ.out.1]; kernel_rfl) ?_
     have hylen : y.length = x.toNat := by rw [mapO_len _ _ _ HY.out,List.length_take]; omega
     have HYl := Lib.hid hylen
     have HLl : Hid (y.length + 1 ≤ 256) := Lib.hid (by have := HA.out.2.2.2; omega)
     have HO1 : Hid (∀ u ∈ ([.string r.n] ++ (qs ++ [.bool r.o,.slice A17 r.d.length c17]) : List Value),u.oneCell' = true) := Lib.hid fun u hu => by
      simp only [List.mem_append,List.mem_cons,List.not_mem_nil,or_false] at hu
      rcases hu with rfl | hu | rfl | rfl
      ·rfl
      ·exact HQ.out.2 u hu
      ·rfl
      ·rfl
     clear hylen
     obtain ⟨q0,q1,q2,q3,q4,q5,q6,q7,q8,q9,q10,q11,q12,q13,q14,rfl⟩ := len15 HQ.out.1
     go_wp2_with (at_builtin; refine Held.out ?_)
     refine ⟨?_⟩
     refine wpList_append_blk (by rfl) _ _ Tryz.underlying35 info_pts rfl (by decide) rfl va y.length xk rfl (cs := ([.string r.n,q0,q1,q2,q3,q4,q5,q6,q7,q8,q9,q10,q11,q12,q13,q14,.bool r.o,.slice A17 r.d.length c17] : List Value)) (H8.out.drop.drop.two.alloc _) rfl rfl HO1.out (by have := HLl.out; simp only [maxLen]; omega) (by have := HLl.out; omega) ?_
     intro v9 w9 h9
     have H9 : Hid (S w0 w9 (RowV 83 18 v9 (y ++ [(⟨r.n,t1,r.o,r.d⟩ : Pt Ty)]).length (xk ++ ([.string r.n,q0,q1,q2,q3,q4,q5,q6,q7,q8,q9,q10,q11,q12,q13,q14,.bool r.o,.slice A17 r.d.length c17] : List Value)) • (Vw w0 w0.heap.size (fun W => Reps (kPt.K W) 18 (y ++ [⟨r.n,t1,r.o,r.d⟩]) (xk ++ ([.string r.n,q0,q1,q2,q3,q4,q5,q6,q7,q8,q9,q10,q11,q12,q13,q14,.bool r.o,.slice A17 r.d.length c17] : List Value))) • (Blk g (.cells mc.toArray 44) • R)))) := Lib.hid (by
      rw [List.length_append,List.length_singleton]
      refine (Vw.map (Vw.join h9.two.drop.three.three) fun wv hb hp => ?_).two
      exact Reps.snoc hp.2 (kPt_mk wv ⟨r.n,t1,r.o,r.d⟩ (hp.1 _ HQT.out) HV.out.1 (Kd.C_below HV.out.2 hb)) rfl)
     have HY2 : Hid (mapO (partP (typP (rlook m) n)) (l.take (x + 1).toNat) = some (y ++ [⟨r.n,t1,r.o,r.d⟩])) := Lib.hid (by
      rw [show (x + 1).toNat = x.toNat + 1 by omega]
      exact mapO_take HG.out HY.out (by unfold partP; rw [HQT.out]; rfl))
     clear h9 H8
     go_wp2
     exact ⟨⟨_,x + 1,_,_,rfl,by omega,by omega,by go_num,H9,HY2⟩,by simp only [intOf]; omega⟩
  ·have hlt' : (x < (l.length : Int)) = False := eq_false hlt
   have HN : Hid (partsP (typP (rlook m) n) l = some y) := Lib.hid (by
    have h := HY.out
    rwa [List.take_of_length_le (by omega)] at h)
   obtain ⟨-,A',c',rfl,hc1, -⟩ := HR.out.reads
   have H7 := Lib.hid (Vw.map (Vw.row (d := kPt) (l := y) (by decide) rfl HR.out) (q := fun W => ∀ r',partsP (typP (rlook m) n) l = some r' → y.length = r'.length ∧ r'.length ≤ c' ∧ kPt.C W A' r'.length r') fun wv _ hp r' hr => by
    rw [HN.out] at hr
    cases hr
    obtain ⟨A2,c2,e,h1, -,h2⟩ := hp
    simp only [Value.slice.injEq] at e
    obtain ⟨rfl, -,rfl⟩ := e
    exact ⟨rfl,h1,h2⟩)
   clear hc1
   go_wp2
   refine bodyPost_ret (v := .tuple #[.slice A' y.length c',.bool true]) (by simp [results,Tryz.results46,go_sem]) rfl ⟨A',y.length,c',by rw [HN.out]; rfl,H7.out.two.drop⟩
end Go.Proofs.YtbjddomocggjmaaGreat.Sc
end
section
namespace Go.Proofs.YtbjddomocggjmaaGreat.Sc
open Go.RowKit Go.ChangeShapes Go.WideShapes Go.Proofs.YtbjddomocggjmaaGreat.Sep
open Go.Proofs.YtbjddomocggjmaaGreatW.PrintWords
variable {B : Nat} {w0 w : World} {R : HP}
theorem full_ne {m : Md} {s : ByteArray} : ((ownR m s || m.im.any (hasI s)) = true → (fullP m s).toList ≠ []) ∧ ((ownR m s || m.im.any (hasI s)) = false → fullP m s = ⟨#[]⟩) := by
 have hd : ∀ a b : ByteArray,(dotB a b).toList ≠ [] := fun a b h => by
  have h1 := congrArg List.length h
  rw [Lib.toList_data] at h1
  unfold dotB at h1
  simp at h1
 have hi : ∀ l : List Im,(l.any (hasI s) = true → (impP s l).toList ≠ []) ∧ (l.any (hasI s) = false → impP s l = ⟨#[]⟩) := fun l => by
  induction l with
  | nil => exact ⟨fun h => (by cases h),fun _ => rfl⟩
  | cons x l ih =>
   unfold impP
   rw [List.any_cons]
   cases hx : hasI s x with
   | true => exact ⟨fun _ => by rw [if_pos rfl]; exact hd _ _,fun h => (by cases h)⟩
   | false => rw [if_neg (by simp),Bool.false_or]; exact ih
 unfold fullP
 cases ho : ownR m s with
 | true => exact ⟨fun _ => by rw [if_pos rfl]; exact hd _ _,fun h => (by cases h)⟩
 | false => rw [if_neg (by simp),Bool.false_or]; exact hi m.im
theorem rlook_at (m : Md) (s : ByteArray) : rlook m s.data.toList = if (ownR m s || m.im.any (hasI s)) = true then some (fullP m s) else none := rfl
set_option maxHeartbeats 16000000 in
set_option maxRecDepth 100000 in
theorem named_ref (m : Md) (mc : List Value) (hmc : kMd.K w0 m mc) (om : oS m.n) (oi : ∀ x ∈ m.im,oS x.f1) (n : Nat) (t : Ty) (cs : List Value) (h : S w0 w R) (hK : kTy.K w0 t cs) (ho : oTy t) (hk : t.k = 11) :
  Calls Tryz.prog 21 #[.agg mc.toArray,.agg cs.toArray] w fun e w' => ∃ qs : List Value,qs.length = 15 ∧ (∀ u ∈ qs,u.oneCell' = true) ∧ e = .returned (.tuple #[.agg qs.toArray,.bool (typP (rlook m) (n + 1) t).isSome]) ∧ S w0 w' (Vw w0 w0.heap.size (fun W => ∀ r,typP (rlook m) (n + 1) t = some r → kTy.K W r qs) • R) := by
 have e11 : typP (rlook m) (n + 1) t = (rlook m t.n.data.toList).map fun s => ⟨t.k,s,t.c,t.e,t.fr,t.ns,t.mo,t.ps,t.ad,t.el⟩ := if_pos hk
 obtain ⟨A7,c7,A10,c10,A11,c11,A12,c12,A13,c13,A14,c14,rfl,l7,g7,l10,g10,l11,g11,l12,g12,l13,g13,l14,g14⟩ := kTy_open hK
 have HC := Lib.hid (And.intro g7 (And.intro g10 (And.intro g11 (And.intro g12 (And.intro g13 g14)))))
 have HL := Lib.hid (And.intro l7 (And.intro l10 (And.intro l11 (And.intro l12 (And.intro l13 l14)))))
 have HM : Hid (kMd.K w0 m mc ∧ mc.length = 4) := Lib.hid (And.intro hmc (kMd.K_len hmc))
 have HO := Lib.hid (And.intro om (And.intro oi (oTyP ho).2.2.2))
 show Calls Tryz.prog 21 #[.agg mc.toArray,.agg #[.int .i64 t.k,.string t.n,.int .i64 t.c.f0,.int .i64 t.c.f1,.int .i64 t.c.f2,.bool t.c.f3,.bool t.c.f4,.slice A7 t.c.f5.length c7,.bool t.e,.string t.fr,.slice A10 t.ns.length c10,.slice A11 t.mo.length c11,.slice A12 t.ps.length c12,.slice A13 t.ad.length c13,.slice A14 t.el.length c14]] w _
 have p1 : (t.k == 11) = true := beq_iff_eq.2 hk
 generalize hg : w.heap.size = g
 have H := Lib.hid (alloc_at (n := g + 2) (alloc_at (n := g + 1) (alloc_at (n := g) h (.cells mc.toArray 44) hg.symm) (.cells #[.int .i64 t.k,.string t.n,.int .i64 t.c.f0,.int .i64 t.c.f1,.int .i64 t.c.f2,.bool t.c.f3,.bool t.c.f4,.slice A7 t.c.f5.length c7,.bool t.e,.string t.fr,.slice A10 t.ns.length c10,.slice A11 t.mo.length c11,.slice A12 t.ps.length c12,.slice A13 t.ad.length c13,.slice A14 t.el.length c14] 38) (by simp [hg])) (.cells #[.int .i64 0,.string ⟨#[]⟩,.int .i64 0,.int .i64 0,.int .i64 0,.bool false,.bool false,.slice none 0 0,.bool false,.string ⟨#[]⟩,.slice none 0 0,.slice none 0 0,.slice none 0 0,.slice none 0 0,.slice none 0 0] 38) (by simp [hg]))
 have d0 := H.out.two.cell 0 (v := .int .i64 t.k) rfl
 have d1 := H.out.two.cell 1 (v := .string t.n) rfl
 have HE := Lib.hid e11
 clear h hK hmc om oi ho hk e11 l7 g7 l10 g10 l11 g11 l12 g12 l13 g13 l14 g14
 go_enter Tryz.func21,Tryz.ntmps21
 go_wp2_with (refine held_load 44 _ rfl ?_)
 refine ⟨?_⟩
 refine wpList_load_cells rfl 44 _ rfl _ rfl mc (blk_cellsR H.out.three) _ Tryz.underlying44 rfl (by rw [HM.out.2]; kernel_rfl) ?_
 go_wp2_with fail
 refine (rfull_calls m mc t.n H.out HM.out.1 HO.out.1 HO.out.2.1 HO.out.2.2).mono ?_
 rintro e w1 ⟨rfl,h1⟩
 have H1 := Lib.hid h1
 clear h1 H d0 d1
 have HN := Lib.hid (rlook_at m t.n)
 have HNe := Lib.hid (full_ne (m := m) (s := t.n))
 cases hb : (ownR m t.n || m.im.any (hasI t.n)) with
 | true =>
  rw [hb,if_pos rfl] at HN
  have HT : Hid (typP (rlook m) (n + 1) t = some ⟨t.k,fullP m t.n,t.c,t.e,t.fr,t.ns,t.mo,t.ps,t.ad,t.el⟩) := Lib.hid (by rw [HE.out,HN.out]; rfl)
  have hne := HNe.out.1 hb
  clear hb HN HNe
  generalize fullP m t.n = s at *
  have y0 : s.toList.isEmpty = false := by rw [List.isEmpty_eq_false_iff]; exact hne
  clear hne
  go_wp2_with (refine held_store _ _ _ rfl ?_)
  refine ⟨?_⟩
  refine wpList_store_off rfl rfl [.string s] rfl rfl rfl (by kernel_rfl) (by simp [Value.oneCell']) H1.out.two (by simp) (new := #[.int .i64 t.k,.string s,.int .i64 t.c.f0,.int .i64 t.c.f1,.int .i64 t.c.f2,.bool t.c.f3,.bool t.c.f4,.slice A7 t.c.f5.length c7,.bool t.e,.string t.fr,.slice A10 t.ns.length c10,.slice A11 t.mo.length c11,.slice A12 t.ps.length c12,.slice A13 t.ad.length c13,.slice A14 t.el.length c14]) rfl ?_
  intro w2 h2
  have H2 := Lib.hid h2
  clear h2 H1
  go_wp2
  refine wp_region_held_drew (S := fun W => Hid (∀ (j : Nat) (v : Value),([.int .i64 t.k,.string s,.int .i64 t.c.f0,.int .i64 t.c.f1,.int .i64 t.c.f2,.bool t.c.f3,.bool t.c.f4,.slice A7 t.c.f5.length c7,.bool t.e,.string t.fr,.slice A10 t.ns.length c10,.slice A11 t.mo.length c11,.slice A12 t.ps.length c12,.slice A13 t.ad.length c13,.slice A14 t.el.length c14] : List Value)[j]? = some v → W.cell? ((⟨g + 1,0,none⟩ : Addr).add j) = some v) ∧ W.cell? ⟨g + 1,1,none⟩ = some (.string s)) (by kernel_rfl) ?_ (fun hHeld => ?_)
  ·exact ⟨Lib.hid (blk_cellsR H2.out.drew),(H2.out.drew).cell 1 (v := .string s) rfl⟩
  refine wpAnyH_take (i := 0) (oi := ⟨some 22,.load 38 (.tmp 3),38,"ref.go:87",#[],none⟩) (v := .agg ([.int .i64 t.k,.string s,.int .i64 t.c.f0,.int .i64 t.c.f1,.int .i64 t.c.f2,.bool t.c.f3,.bool t.c.f4,.slice A7 t.c.f5.length c7,.bool t.e,.string t.fr,.slice A10 t.ns.length c10,.slice A11 t.mo.length c11,.slice A12 t.ps.length c12,.slice A13 t.ad.length c13,.slice A14 t.el.length c14] : List Value).toArray) rfl (by kernel_rfl) (by kernel_rfl) (by kernel_rfl) (fun _ _ _ h => h) (yields_loadR (by rfl) 38 _ rfl (⟨g + 1,0,none⟩) rfl [.int .i64 t.k,.string s,.int .i64 t.c.f0,.int .i64 t.c.f1,.int .i64 t.c.f2,.bool t.c.f3,.bool t.c.f4,.slice A7 t.c.f5.length c7,.bool t.e,.string t.fr,.slice A10 t.ns.length c10,.slice A11 t.mo.length c11,.slice A12 t.ps.length c12,.slice A13 t.ad.length c13,.slice A14 t.el.length c14] (fun w hS => hS.1.out) _ Tryz.underlying38 rfl (by rw [(rfl : ([.int .i64 t.k,.string s,.int .i64 t.c.f0,.int .i64 t.c.f1,.int .i64 t.c.f2,.bool t.c.f3,.bool t.c.f4,.slice A7 t.c.f5.length c7,.bool t.e,.string t.fr,.slice A10 t.ns.length c10,.slice A11 t.mo.length c11,.slice A12 t.ps.length c12,.slice A13 t.ad.length c13,.slice A14 t.el.length c14] : List Value).length = 15)]; kernel_rfl)) (by assumption) ?_
  try simp only [Act.put,List.setIfInBounds_toArray,List.set_cons_succ,List.set_cons_zero]
  refine wpAnyH_take (i := 1) (oi := ⟨some 23,.fieldAddr 38 (.tmp 3) 1,0,"ref.go:87",#[{ on := 4,ground := Ground.gcOnly Departure.lateStores }],none⟩) (v := ?_) rfl (by kernel_rfl) (by kernel_rfl) (by kernel_rfl) (fun _ _ _ h => h) (Or.inl ⟨by rfl, ?_⟩) (by assumption) ?_
  rotate_left 1
  ·intro w hSw
   try dsimp only at hSw
   go_simp
   all_goals with_reducible rfl
  try simp only [Act.put,List.setIfInBounds_toArray,List.set_cons_succ,List.set_cons_zero]
  refine wpAnyH_take (i := 2) (oi := ⟨some 24,.load 9 (.tmp 23),9,"ref.go:87",#[⟨1,.data⟩, { on := 4,ground := Ground.gcOnly Departure.lateStores }],none⟩) (v := ?_) rfl (by kernel_rfl) (by kernel_rfl) (by kernel_rfl) (fun _ _ _ h => h) (Or.inl ⟨by rfl, ?_⟩) (by assumption) ?_
  rotate_left 1
  ·intro w hSw
   try dsimp only at hSw
   go_simp
   all_goals with_reducible rfl
  try simp only [Act.put,List.setIfInBounds_toArray,List.set_cons_succ,List.set_cons_zero]
  refine wpAnyH_take (i := 3) (oi := ⟨some 25,.binOp .neq 9 (.tmp 24) (.const (.string { data := #[] })) 9,4,"ref.go:87",#[⟨2,.data⟩, { on := 4,ground := Ground.gcOnly Departure.lateStores }],none⟩) (v := ?_) rfl (by kernel_rfl) (by kernel_rfl) (by kernel_rfl) (fun _ _ _ h => h) (Or.inl ⟨by rfl, ?_⟩) (by assumption) ?_
  rotate_left 1
  ·intro w hSw
   try dsimp only at hSw
   go_simp
   all_goals with_reducible rfl
  try simp only [Act.put,List.setIfInBounds_toArray,List.set_cons_succ,List.set_cons_zero]
  refine wpAnyH_ready (rs := [4]) (by kernel_rfl) (by simp) ?_
  refine AllReadyH.cons (o := ⟨none,.store 38 (.tmp 4) (.tmp 22),0,"ref.go:87",#[⟨0,.data⟩,⟨0,.phase⟩, { on := 1,ground := Ground.textOnly Departure.lateStores }, { on := 2,ground := Ground.textOnly Departure.lateStores }, { on := 3,ground := Ground.textOnly Departure.lateStores }],none⟩) rfl (fun K hK => ?_) AllReadyH.nil
  refine step_store_blk (by rfl) (ty := 38) (by rfl) [.int .i64 t.k,.string s,.int .i64 t.c.f0,.int .i64 t.c.f1,.int .i64 t.c.f2,.bool t.c.f3,.bool t.c.f4,.slice A7 t.c.f5.length c7,.bool t.e,.string t.fr,.slice A10 t.ns.length c10,.slice A11 t.mo.length c11,.slice A12 t.ps.length c12,.slice A13 t.ad.length c13,.slice A14 t.el.length c14] (by rfl) (by rfl) rfl (by kernel_rfl) (by simp [Value.oneCell']) H2.out.drew.two (by rfl) ?_
  intro w6 h6
  refine hK.out _ _ ?_ (fun hHeld => ?_)
  ·exact ⟨Lib.hid (blk_cellsR h6.two),(h6.two).cell 1 (v := .string s) rfl⟩
  clear hK K
  try simp only [Act.put,List.setIfInBounds_toArray,List.set_cons_succ,List.set_cons_zero]
  refine wpAnyH_take (i := 5) (oi := ⟨some 5,.assign (.tmp 25),4,"ref.go:87",#[⟨3,.data⟩,⟨4,.chain⟩,⟨0,.phase⟩,⟨1,.phase⟩,⟨2,.phase⟩,⟨3,.phase⟩,⟨4,.phase⟩],none⟩) (v := ?_) rfl (by kernel_rfl) (by kernel_rfl) (by kernel_rfl) (fun _ _ _ h => h) (Or.inl ⟨by rfl, ?_⟩) (by assumption) ?_
  rotate_left 1
  ·intro w hSw
   try dsimp only at hSw
   go_simp
   all_goals with_reducible rfl
  try simp only [Act.put,List.setIfInBounds_toArray,List.set_cons_succ,List.set_cons_zero]
  refine wpAnyH_done (by kernel_rfl) ?_ _
  have H6 := Lib.hid h6
  clear h6 hHeld H2
  go_wp2
  refine bodyPost_ret (v := .tuple #[.agg #[.int .i64 t.k,.string s,.int .i64 t.c.f0,.int .i64 t.c.f1,.int .i64 t.c.f2,.bool t.c.f3,.bool t.c.f4,.slice A7 t.c.f5.length c7,.bool t.e,.string t.fr,.slice A10 t.ns.length c10,.slice A11 t.mo.length c11,.slice A12 t.ps.length c12,.slice A13 t.ad.length c13,.slice A14 t.el.length c14],.bool true]) (results_row_tmp Tryz.results21 _ _ (g + 2) _ _ (0,0) _ rfl H6.out.block Tryz.underlying38 rfl (by kernel_rfl) rfl) rfl ⟨[.int .i64 t.k,.string s,.int .i64 t.c.f0,.int .i64 t.c.f1,.int .i64 t.c.f2,.bool t.c.f3,.bool t.c.f4,.slice A7 t.c.f5.length c7,.bool t.e,.string t.fr,.slice A10 t.ns.length c10,.slice A11 t.mo.length c11,.slice A12 t.ps.length c12,.slice A13 t.ad.length c13,.slice A14 t.el.length c14],rfl,by simp [Value.oneCell'],by rw [HT.out]; rfl, ?_⟩
  refine Vw.base H6.out.drop.drop.drop fun wv hb r hr => ?_
  rw [HT.out] at hr
  cases hr
  obtain ⟨g7,g10,g11,g12,g13,g14⟩ := HC.out
  obtain ⟨l7,l10,l11,l12,l13,l14⟩ := HL.out
  exact kTy_mk wv ⟨t.k,s,t.c,t.e,t.fr,t.ns,t.mo,t.ps,t.ad,t.el⟩ l7 (Kd.C_below g7 hb) l10 (Kd.C_below g10 hb) l11 (Kd.C_below g11 hb) l12 (Kd.C_below g12 hb) l13 (Kd.C_below g13 hb) l14 (Kd.C_below g14 hb)
 | false =>
  rw [hb,if_neg (by simp)] at HN
  have HT : Hid (typP (rlook m) (n + 1) t = none) := Lib.hid (by rw [HE.out,HN.out]; rfl)
  have hne := HNe.out.2 hb
  clear hb HN HNe
  rw [hne]
  clear hne
  obtain ⟨s,hs⟩ : ∃ s : ByteArray,s = ⟨#[]⟩ := ⟨_,rfl⟩
  rw [← hs]
  have y0 : s.toList.isEmpty = true := by rw [hs,Lib.toList_data]; rfl
  clear hs
  go_wp2_with (refine held_store _ _ _ rfl ?_)
  refine ⟨?_⟩
  refine wpList_store_off rfl rfl [.string s] rfl rfl rfl (by kernel_rfl) (by simp [Value.oneCell']) H1.out.two (by simp) (new := #[.int .i64 t.k,.string s,.int .i64 t.c.f0,.int .i64 t.c.f1,.int .i64 t.c.f2,.bool t.c.f3,.bool t.c.f4,.slice A7 t.c.f5.length c7,.bool t.e,.string t.fr,.slice A10 t.ns.length c10,.slice A11 t.mo.length c11,.slice A12 t.ps.length c12,.slice A13 t.ad.length c13,.slice A14 t.el.length c14]) rfl ?_
  intro w2 h2
  have H2 := Lib.hid h2
  clear h2 H1
  go_wp2
  refine wp_region_held_drew (S := fun W => Hid (∀ (j : Nat) (v : Value),([.int .i64 t.k,.string s,.int .i64 t.c.f0,.int .i64 t.c.f1,.int .i64 t.c.f2,.bool t.c.f3,.bool t.c.f4,.slice A7 t.c.f5.length c7,.bool t.e,.string t.fr,.slice A10 t.ns.length c10,.slice A11 t.mo.length c11,.slice A12 t.ps.length c12,.slice A13 t.ad.length c13,.slice A14 t.el.length c14] : List Value)[j]? = some v → W.cell? ((⟨g + 1,0,none⟩ : Addr).add j) = some v) ∧ W.cell? ⟨g + 1,1,none⟩ = some (.string s)) (by kernel_rfl) ?_ (fun hHeld => ?_)
  ·exact ⟨Lib.hid (blk_cellsR H2.out.drew),(H2.out.drew).cell 1 (v := .string s) rfl⟩
  refine wpAnyH_take (i := 0) (oi := ⟨some 22,.load 38 (.tmp 3),38,"ref.go:87",#[],none⟩) (v := .agg ([.int .i64 t.k,.string s,.int .i64 t.c.f0,.int .i64 t.c.f1,.int .i64 t.c.f2,.bool t.c.f3,.bool t.c.f4,.slice A7 t.c.f5.length c7,.bool t.e,.string t.fr,.slice A10 t.ns.length c10,.slice A11 t.mo.length c11,.slice A12 t.ps.length c12,.slice A13 t.ad.length c13,.slice A14 t.el.length c14] : List Value).toArray) rfl (by kernel_rfl) (by kernel_rfl) (by kernel_rfl) (fun _ _ _ h => h) (yields_loadR (by rfl) 38 _ rfl (⟨g + 1,0,none⟩) rfl [.int .i64 t.k,.string s,.int .i64 t.c.f0,.int .i64 t.c.f1,.int .i64 t.c.f2,.bool t.c.f3,.bool t.c.f4,.slice A7 t.c.f5.length c7,.bool t.e,.string t.fr,.slice A10 t.ns.length c10,.slice A11 t.mo.length c11,.slice A12 t.ps.length c12,.slice A13 t.ad.length c13,.slice A14 t.el.length c14] (fun w hS => hS.1.out) _ Tryz.underlying38 rfl (by rw [(rfl : ([.int .i64 t.k,.string s,.int .i64 t.c.f0,.int .i64 t.c.f1,.int .i64 t.c.f2,.bool t.c.f3,.bool t.c.f4,.slice A7 t.c.f5.length c7,.bool t.e,.string t.fr,.slice A10 t.ns.length c10,.slice A11 t.mo.length c11,.slice A12 t.ps.length c12,.slice A13 t.ad.length c13,.slice A14 t.el.length c14] : List Value).length = 15)]; kernel_rfl)) (by assumption) ?_
  try simp only [Act.put,List.setIfInBounds_toArray,List.set_cons_succ,List.set_cons_zero]
  refine wpAnyH_take (i := 1) (oi := ⟨some 23,.fieldAddr 38 (.tmp 3) 1,0,"ref.go:87",#[{ on := 4,ground := Ground.gcOnly Departure.lateStores }],none⟩) (v := ?_) rfl (by kernel_rfl) (by kernel_rfl) (by kernel_rfl) (fun _ _ _ h => h) (Or.inl ⟨by rfl, ?_⟩) (by assumption) ?_
  rotate_left 1
  ·intro w hSw
   try dsimp only at hSw
   go_simp
   all_goals with_reducible rfl
  try simp only [Act.put,List.setIfInBounds_toArray,List.set_cons_succ,List.set_cons_zero]
  refine wpAnyH_take (i := 2) (oi := ⟨some 24,.load 9 (.tmp 23),9,"ref.go:87",#[⟨1,.data⟩, { on := 4,ground := Ground.gcOnly Departure.lateStores }],none⟩) (v := ?_) rfl (by kernel_rfl) (by kernel_rfl) (by kernel_rfl) (fun _ _ _ h => h) (Or.inl ⟨by rfl, ?_⟩) (by assumption) ?_
  rotate_left 1
  ·intro w hSw
   try dsimp only at hSw
   go_simp
   all_goals with_reducible rfl
  try simp only [Act.put,List.setIfInBounds_toArray,List.set_cons_succ,List.set_cons_zero]
  refine wpAnyH_take (i := 3) (oi := ⟨some 25,.binOp .neq 9 (.tmp 24) (.const (.string { data := #[] })) 9,4,"ref.go:87",#[⟨2,.data⟩, { on := 4,ground := Ground.gcOnly Departure.lateStores }],none⟩) (v := ?_) rfl (by kernel_rfl) (by kernel_rfl) (by kernel_rfl) (fun _ _ _ h => h) (Or.inl ⟨by rfl, ?_⟩) (by assumption) ?_
  rotate_left 1
  ·intro w hSw
   try dsimp only at hSw
   go_simp
   all_goals with_reducible rfl
  try simp only [Act.put,List.setIfInBounds_toArray,List.set_cons_succ,List.set_cons_zero]
  refine wpAnyH_ready (rs := [4]) (by kernel_rfl) (by simp) ?_
  refine AllReadyH.cons (o := ⟨none,.store 38 (.tmp 4) (.tmp 22),0,"ref.go:87",#[⟨0,.data⟩,⟨0,.phase⟩, { on := 1,ground := Ground.textOnly Departure.lateStores }, { on := 2,ground := Ground.textOnly Departure.lateStores }, { on := 3,ground := Ground.textOnly Departure.lateStores }],none⟩) rfl (fun K hK => ?_) AllReadyH.nil
  refine step_store_blk (by rfl) (ty := 38) (by rfl) [.int .i64 t.k,.string s,.int .i64 t.c.f0,.int .i64 t.c.f1,.int .i64 t.c.f2,.bool t.c.f3,.bool t.c.f4,.slice A7 t.c.f5.length c7,.bool t.e,.string t.fr,.slice A10 t.ns.length c10,.slice A11 t.mo.length c11,.slice A12 t.ps.length c12,.slice A13 t.ad.length c13,.slice A14 t.el.length c14] (by rfl) (by rfl) rfl (by kernel_rfl) (by simp [Value.oneCell']) H2.out.drew.two (by rfl) ?_
  intro w6 h6
  refine hK.out _ _ ?_ (fun hHeld => ?_)
  ·exact ⟨Lib.hid (blk_cellsR h6.two),(h6.two).cell 1 (v := .string s) rfl⟩
  clear hK K
  try simp only [Act.put,List.setIfInBounds_toArray,List.set_cons_succ,List.set_cons_zero]
  refine wpAnyH_take (i := 5) (oi := ⟨some 5,.assign (.tmp 25),4,"ref.go:87",#[⟨3,.data⟩,⟨4,.chain⟩,⟨0,.phase⟩,⟨1,.phase⟩,⟨2,.phase⟩,⟨3,.phase⟩,⟨4,.phase⟩],none⟩) (v := ?_) rfl (by kernel_rfl) (by kernel_rfl) (by kernel_rfl) (fun _ _ _ h => h) (Or.inl ⟨by rfl, ?_⟩) (by assumption) ?_
  rotate_left 1
  ·intro w hSw
   try dsimp only at hSw
   go_simp
   all_goals with_reducible rfl
  try simp only [Act.put,List.setIfInBounds_toArray,List.set_cons_succ,List.set_cons_zero]
  refine wpAnyH_done (by kernel_rfl) ?_ _
  have H6 := Lib.hid h6
  clear h6 hHeld H2
  go_wp2
  refine bodyPost_ret (v := .tuple #[.agg #[.int .i64 t.k,.string s,.int .i64 t.c.f0,.int .i64 t.c.f1,.int .i64 t.c.f2,.bool t.c.f3,.bool t.c.f4,.slice A7 t.c.f5.length c7,.bool t.e,.string t.fr,.slice A10 t.ns.length c10,.slice A11 t.mo.length c11,.slice A12 t.ps.length c12,.slice A13 t.ad.length c13,.slice A14 t.el.length c14],.bool false]) (results_row_tmp Tryz.results21 _ _ (g + 2) _ _ (0,0) _ rfl H6.out.block Tryz.underlying38 rfl (by kernel_rfl) rfl) rfl ⟨[.int .i64 t.k,.string s,.int .i64 t.c.f0,.int .i64 t.c.f1,.int .i64 t.c.f2,.bool t.c.f3,.bool t.c.f4,.slice A7 t.c.f5.length c7,.bool t.e,.string t.fr,.slice A10 t.ns.length c10,.slice A11 t.mo.length c11,.slice A12 t.ps.length c12,.slice A13 t.ad.length c13,.slice A14 t.el.length c14],rfl,by simp [Value.oneCell'],by rw [HT.out]; rfl, ?_⟩
  refine Vw.base H6.out.drop.drop.drop fun wv hb r hr => ?_
  rw [HT.out] at hr
  cases hr
end Go.Proofs.YtbjddomocggjmaaGreat.Sc
end
