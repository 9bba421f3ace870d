/- Words that the walks use: those of the printed words and contracts that are used here, and no other. -/
import Derived.OrdersHeld
import Derived.Deep.RegionHeld3
import Derived.Laws.BitsLemmas
import Derived.RowKit
import Derived.Below
import Derived.Deep.Draws
import Derived.Deep.AppendLies
import Derived.Maps.AppendAt
import Derived.OwnWalk
import Derived.Laws.BytesArg
import Derived.Laws.MakeOwn
import Derived.Laws.OwnMore
import Derived.Deep.OwnRows
import Derived.Tactics
import Derived.Lib.ConvBytes
import Derived.Laws.Slices
import Derived.WalkKit
import Derived.KernelRfl
import Derived.RowKit3
import Derived.Deep.LoopGhost
import Derived.Deep.QuietTactic
import Derived.BigQuiet
import Derived.WideLaws
import Derived.Deep.DeepCutAuto
import Derived.Deep.CutBlock
import Derived.Laws.Rows
import Derived.Lib.AppendStr
import Derived.ArgAppend
import Derived.Laws.IdiomCopy
import Derived.Test.YtbjddomocggjmaaGreatProg
import Derived.Laws.StructEq
namespace Go.Proofs.YtbjddomocggjmaaGreatW.PrintLast
end Go.Proofs.YtbjddomocggjmaaGreatW.PrintLast
namespace Go.Proofs.YtbjddomocggjmaaGreatW.PrintWords
end Go.Proofs.YtbjddomocggjmaaGreatW.PrintWords
namespace Go.Proofs.YtbjddomocggjmaaGreatW.PrintMore
end Go.Proofs.YtbjddomocggjmaaGreatW.PrintMore
namespace Go.Proofs.YtbjddomocggjmaaGreat.PKeyword
end Go.Proofs.YtbjddomocggjmaaGreat.PKeyword
namespace Go.Proofs.YtbjddomocggjmaaGreat.Pprintable
end Go.Proofs.YtbjddomocggjmaaGreat.Pprintable
namespace Go.Proofs.YtbjddomocggjmaaGreat.Prises
end Go.Proofs.YtbjddomocggjmaaGreat.Prises
section
namespace Go.Proofs.YtbjddomocggjmaaGreatW.PrintLast
section
variable {P : Program} {ops : Array Oper} {Q : Exit → Act → World → Prop} {md : Region.Mode} {S : World → Prop} {ds : List Nat}
def Region.reachB (md : Region.Mode) (ops : Array Oper) (i : Nat) : Nat → Nat → Bool
 | 0,_ => false
 | fuel + 1,d => match ops[d]? with
  | some o => o.after.any fun e => Region.binds md e && (e.on == i || Region.reachB md ops i fuel e.on)
  | none => false
def Region.closedB (md : Region.Mode) (ops : Array Oper) (listed : Array Bool) : Bool :=
 (List.range ops.size).all fun j => !listed.getD j false || match ops[j]? with
  | some o => o.after.all fun e => !Region.binds md e || listed.getD e.on false
  | none => true
def Region.lastB (md : Region.Mode) (ops : Array Oper) (listed : Array Bool) (ds : List Nat) (i : Nat) : Bool :=
 ds.all fun d => listed.getD d true || Region.reachB md ops i ops.size d
def ListedClosed (md : Region.Mode) (ops : Array Oper) (listed : Array Bool) : Prop :=
 ∀ j oj,ops[j]? = some oj → listed.getD j false = true → ∀ e ∈ oj.after,Region.binds md e = true → listed.getD e.on false = true
theorem Region.closedB_spec {listed : Array Bool} (h : Region.closedB md ops listed = true) : ListedClosed md ops listed := by
 intro j oj hj hl e he hb
 have hlt : j < ops.size := (Array.getElem?_eq_some_iff.1 hj).1
 have h1 := List.all_eq_true.1 h j (List.mem_range.2 hlt)
 simp only [hl,hj,Bool.not_true,Bool.false_or] at h1
 have h2 := Array.all_eq_true_iff_forall_mem.1 h1 e he
 simpa [hb] using h2
theorem ListedClosed.set {listed : Array Bool} {i : Nat} (h : ListedClosed md ops listed) (hi : i ∈ Region.ready md ops listed) : ListedClosed md ops (listed.setIfInBounds i true) := by
 obtain ⟨_,oi,hoi,hall⟩ := mem_ready.1 hi
 intro j oj hj hl e he hb
 by_cases hij : i = j
 ·subst hij
  have : oj = oi := Option.some.inj (hj.symm.trans hoi)
  subst this
  exact getD_set_true (hall e he hb)
 ·rw [getD_set_ne false hij] at hl
  exact getD_set_true (h j oj hj hl e he hb)
theorem Region.reach_listed {listed : Array Bool} {i : Nat} (hc : ListedClosed md ops listed) : ∀ (fuel d : Nat),Region.reachB md ops i fuel d = true → listed.getD d false = true → listed.getD i false = true
 | 0,_,h,_ => by simp [Region.reachB] at h
 | fuel + 1,d,h,hl => by
  unfold Region.reachB at h
  cases ho : ops[d]? with
  | none => rw [ho] at h; simp at h
  | some o =>
   rw [ho] at h
   obtain ⟨e,he,h1⟩ := Array.any_eq_true'.1 h
   simp only [Bool.and_eq_true,Bool.or_eq_true,beq_iff_eq] at h1
   have hle := hc d o ho hl e he h1.1
   rcases h1.2 with h2 | h2
   ·rw [← h2]; exact hle
   ·exact Region.reach_listed hc fuel e.on h2 hle
theorem Region.reach_not_ready {listed : Array Bool} {i d fuel : Nat} (hc : ListedClosed md ops listed) (hr : Region.reachB md ops i fuel d = true) (hun : listed.getD i true = false) : d ∉ Region.ready md ops listed := by
 intro hd
 obtain ⟨_,o,ho,hall⟩ := mem_ready.1 hd
 have hi : listed.getD i false = true := by
  cases fuel with
  | zero => simp [Region.reachB] at hr
  | succ n =>
   unfold Region.reachB at hr
   rw [ho] at hr
   obtain ⟨e,he,h1⟩ := Array.any_eq_true'.1 hr
   simp only [Bool.and_eq_true,Bool.or_eq_true,beq_iff_eq] at h1
   have hle := hall e he h1.1
   rcases h1.2 with h2 | h2
   ·rw [← h2]; exact hle
   ·exact Region.reach_listed hc n e.on h2 hle
 rcases Nat.lt_or_ge i listed.size with h' | h'
 ·simp [h'] at hun hi
  rw [hun] at hi
  cases hi
 ·simp [Array.getElem?_eq_none h'] at hun
def wpAnyLast (P : Program) (md : Region.Mode) (ops : Array Oper) (Q : Exit → Act → World → Prop) (S : World → Prop) (ds : List Nat) : Nat → Array Bool → Act → World → Prop
 | 0,listed,a,w => Region.ready md ops listed = [] ∧ Q .normal a w
 | fuel + 1,listed,a,w =>
  (Region.ready md ops listed = [] → Q .normal a w) ∧
  ∀ i ∈ Region.ready md ops listed,wpOp P ops Q i (fun a' w' => (i ∉ ds → S w → S w') ∧ wpAnyLast P md ops Q S ds fuel (listed.setIfInBounds i true) a' w') a w
theorem wpAny_of_last : ∀ (fuel : Nat) (listed : Array Bool) (a : Act) (w : World),wpAnyLast P md ops Q S ds fuel listed a w → wpAny P md ops Q fuel listed a w
 | 0,_,_,_,h => h
 | fuel + 1,_,_,_,h => ⟨h.1,fun i hi => wpOp_mono (fun a' w' h' => wpAny_of_last fuel _ a' w' h'.2) (h.2 i hi)⟩
theorem wpAnyLast_first {i : Nat} {oi : Oper} {v : Value} (hi : ops[i]? = some oi) (hsel : ∀ (j : Nat) (o : Oper) cs b,ops[j]? = some o → o.op ≠ .select cs b)
  (hQ : ∀ c a w,Q (.panic c) (a.put oi.dst v) w → Q (.panic c) a w) (n : Nat) :
  ∀ (fuel : Nat) (listed : Array Bool) (a : Act) (w : World),
   (∀ j oj,ops[j]? = some oj → j ≠ i → listed.getD j true = false → (∀ e ∈ oj.after,Region.binds md e = true → e.on ≠ i) → oi.apart ops oj = true) →
   ListedClosed md ops listed → (∀ d ∈ ds,listed.getD d true = false → Region.reachB md ops i n d = true) →
   i ∈ Region.ready md ops listed → YieldsIf P ops S oi v a → S w →
   wpAnyLast P md ops Q S ds fuel (listed.setIfInBounds i true) (a.put oi.dst v) w → wpAnyLast P md ops Q S ds (fuel + 1) listed a w := by
 intro fuel
 induction fuel with
 | zero =>
  intro listed a w _ _ _ hr hy hS H
  refine ⟨fun h => (by rw [h] at hr; cases hr),fun j hj => ?_⟩
  by_cases hji : j = i
  ·subst hji; exact hy.wpOp hi hS ⟨fun _ h => h,H⟩
  ·have := ready_mono hj hji
   rw [H.1] at this
   cases this
 | succ fuel ih =>
  intro listed a w hfree hc hd hr hy hS H
  refine ⟨fun h => (by rw [h] at hr; cases hr),fun j hj => ?_⟩
  by_cases hji : j = i
  ·subst hji; exact hy.wpOp hi hS ⟨fun _ h => h,H⟩
  ·have h1 := H.2 j (ready_mono hj hji)
   obtain ⟨hjun,oj,hoj,hall⟩ := mem_ready.1 hj
   have hiun := (mem_ready.1 hr).1
   have hnot : ∀ e ∈ oj.after,Region.binds md e = true → e.on ≠ i := fun e he hb heq => by
    have h1 := hall e he hb
    rw [heq] at h1
    rcases Nat.lt_or_ge i listed.size with h' | h'
    ·simp [h'] at hiun h1; rw [hiun] at h1; cases h1
    ·simp [Array.getElem?_eq_none h'] at h1
   have hjd : j ∉ ds := fun hm => Region.reach_not_ready hc (hd j hm hjun) hiun hj
   have h2 := wpOp_putIf hoj (hfree j oj hoj hji hjun hnot) (fun cs b => hsel i oi cs b hi) (fun cs b => hsel j oj cs b hoj) hQ hy h1
   have hfree' : ∀ k ok,ops[k]? = some ok → k ≠ i → (listed.setIfInBounds j true).getD k true = false →
     (∀ e ∈ ok.after,Region.binds md e = true → e.on ≠ i) → oi.apart ops ok = true := fun k ok hk hki hun hno => by
    refine hfree k ok hk hki ?_ hno
    by_cases hjk : j = k
    ·subst hjk; exact hjun
    ·rw [getD_set_ne true hjk] at hun; exact hun
   have hd' : ∀ d ∈ ds,(listed.setIfInBounds j true).getD d true = false → Region.reachB md ops i n d = true := fun d hm hun => by
    refine hd d hm ?_
    by_cases hjk : j = d
    ·subst hjk; exact hjun
    ·rw [getD_set_ne true hjk] at hun; exact hun
   refine wpOp_mono (fun a' w' h3 => ⟨h3.2.1,ih (listed.setIfInBounds j true) a' w' hfree' (hc.set hj) hd' (ready_mono hr (Ne.symm hji)) h3.1 (h3.2.1 hjd hS) ?_⟩) h2
   rw [Array.setIfInBounds_comm _ _ hji]
   exact h3.2.2
theorem wpAnyLast_any {i : Nat} {oi : Oper} {v : Value} (hi : ops[i]? = some oi) (hsel : ∀ (j : Nat) (o : Oper) cs b,ops[j]? = some o → o.op ≠ .select cs b)
  (hQ : ∀ c a w,Q (.panic c) (a.put oi.dst v) w → Q (.panic c) a w) :
  ∀ (fuel : Nat) (listed : Array Bool) (a : Act) (w : World),
   (∀ j oj,ops[j]? = some oj → j ≠ i → listed.getD j true = false → (∀ e ∈ oj.after,Region.binds md e = true → e.on ≠ i) → oi.apart ops oj = true) →
   i ∈ Region.ready md ops listed → Yields P ops oi v a →
   wpAnyLast P md ops Q S ds fuel (listed.setIfInBounds i true) (a.put oi.dst v) w → wpAnyLast P md ops Q S ds (fuel + 1) listed a w := by
 intro fuel
 induction fuel with
 | zero =>
  intro listed a w _ hr hy H
  refine ⟨fun h => (by rw [h] at hr; cases hr),fun j hj => ?_⟩
  by_cases hji : j = i
  ·subst hji; exact (hy.yieldsIf (S := fun _ => True)).wpOp hi trivial ⟨fun _ h => h,H⟩
  ·have := ready_mono hj hji
   rw [H.1] at this
   cases this
 | succ fuel ih =>
  intro listed a w hfree hr hy H
  refine ⟨fun h => (by rw [h] at hr; cases hr),fun j hj => ?_⟩
  by_cases hji : j = i
  ·subst hji; exact (hy.yieldsIf (S := fun _ => True)).wpOp hi trivial ⟨fun _ h => h,H⟩
  ·have h1 := H.2 j (ready_mono hj hji)
   obtain ⟨hjun,oj,hoj,hall⟩ := mem_ready.1 hj
   have hiun := (mem_ready.1 hr).1
   have hnot : ∀ e ∈ oj.after,Region.binds md e = true → e.on ≠ i := fun e he hb heq => by
    have h1 := hall e he hb
    rw [heq] at h1
    rcases Nat.lt_or_ge i listed.size with h' | h'
    ·simp [h'] at hiun h1; rw [hiun] at h1; cases h1
    ·simp [Array.getElem?_eq_none h'] at h1
   have h2 := wpOp_put hoj (hfree j oj hoj hji hjun hnot) (fun cs b => hsel i oi cs b hi) (fun cs b => hsel j oj cs b hoj) hQ hy h1
   have hfree' : ∀ k ok,ops[k]? = some ok → k ≠ i → (listed.setIfInBounds j true).getD k true = false →
     (∀ e ∈ ok.after,Region.binds md e = true → e.on ≠ i) → oi.apart ops ok = true := fun k ok hk hki hun hno => by
    refine hfree k ok hk hki ?_ hno
    by_cases hjk : j = k
    ·subst hjk; exact hjun
    ·rw [getD_set_ne true hjk] at hun; exact hun
   refine wpOp_mono (fun a' w' h3 => ⟨h3.2.1,ih (listed.setIfInBounds j true) a' w' hfree' (ready_mono hr (Ne.symm hji)) h3.1 ?_⟩) h2
   rw [Array.setIfInBounds_comm _ _ hji]
   exact h3.2.2
theorem wpAnyLast_take {i : Nat} {oi : Oper} {v : Value} {fuel : Nat} {listed : Array Bool} {a : Act} {w : World} (hi : ops[i]? = some oi)
  (hs : Region.noSelect ops = true) (hf : Region.free md ops listed i = true) (hr : (Region.ready md ops listed).contains i = true)
  (hc : Region.closedB md ops listed = true) (hl : Region.lastB md ops listed ds i = true)
  (hQ : ∀ c a w,Q (.panic c) (a.put oi.dst v) w → Q (.panic c) a w) (hy : YieldsIf P ops S oi v a) (hS : S w)
  (h : wpAnyLast P md ops Q S ds fuel (listed.setIfInBounds i true) (a.put oi.dst v) w) : wpAnyLast P md ops Q S ds (fuel + 1) listed a w :=
 wpAnyLast_first hi (Region.noSelect_spec hs) hQ ops.size fuel listed a w (Region.free_spec hi hf) (Region.closedB_spec hc)
  (fun d hm hun => by have := List.all_eq_true.1 hl d hm; rw [hun] at this; simpa using this) (by simpa using hr) hy hS h
theorem wpAnyLast_all {rs : List Nat} {fuel : Nat} {listed : Array Bool} {a : Act} {w : World} (hr : Region.ready md ops listed = rs) (hne : rs ≠ [])
  (h : ∀ i ∈ rs,wpOp P ops Q i (fun a' w' => (i ∉ ds → S w → S w') ∧ wpAnyLast P md ops Q S ds fuel (listed.setIfInBounds i true) a' w') a w) : wpAnyLast P md ops Q S ds (fuel + 1) listed a w :=
 ⟨fun h0 => absurd (hr ▸ h0) hne,hr ▸ h⟩
theorem wpAnyLast_done {listed : Array Bool} {a : Act} {w : World} (hr : Region.ready md ops listed = []) (h : Q .normal a w) :
  ∀ fuel,wpAnyLast P md ops Q S ds fuel listed a w
 | 0 => ⟨hr,h⟩
 | _ + 1 => ⟨fun _ => h,by rw [hr]; simp⟩
theorem wp_region_last {id : Nat} {a : Act} {w : World} (hm : P.follows .mixedOrders = true)
  (h : wpAnyLast P .any ops Q S ds ops.size (Array.replicate ops.size false) a { w with drawn := w.drawn + 1 }) : (Code.region id ops true).wp P Q a w :=
 wp_region_any hm (wpAny_of_last _ _ _ _ h)
end
section
variable {P : Program} {ops : Array Oper} {Q : Exit → Act → World → Prop} {md : Region.Mode} {S : World → Prop} {ds : List Nat}
def AllReadyL (P : Program) (md : Region.Mode) (ops : Array Oper) (Q : Exit → Act → World → Prop) (S : World → Prop) (ds : List Nat) (fuel : Nat) (listed : Array Bool) (a : Act) (w : World) (rs : List Nat) : Prop :=
 ∀ i ∈ rs,wpOp P ops Q i (fun a' w' => (i ∉ ds → S w → S w') ∧ wpAnyLast P md ops Q S ds fuel (listed.setIfInBounds i true) a' w') a w
theorem AllReadyL.nil {fuel : Nat} {listed : Array Bool} {a : Act} {w : World} : AllReadyL P md ops Q S ds fuel listed a w [] := fun _ h => by cases h
theorem AllReadyL.cons {fuel : Nat} {listed : Array Bool} {a : Act} {w : World} {i : Nat} {o : Oper} {rs : List Nat} (ho : ops[i]? = some o) (hd : i ∉ ds)
  (h : ∀ K' : Act → World → Prop,Shut (∀ a w,S w → (S w → wpAnyLast P md ops Q S ds fuel (listed.setIfInBounds i true) a w) → K' a w) → if Region.wanted o (yielded ops a.tmps) = true then Oper.wp P o a w K' Q else K' (a.put o.dst undef) w)
  (hs : AllReadyL P md ops Q S ds fuel listed a w rs) : AllReadyL P md ops Q S ds fuel listed a w (i :: rs) := fun j hj => by
 rcases List.mem_cons.1 hj with rfl | hj
 ·exact wpOp_step ho (fun K' hK => h K' (fun a w hS hW => hK a w ⟨fun _ _ => hS,hW hS⟩))
 ·exact hs j hj
theorem AllReadyL.cons_last {fuel : Nat} {listed : Array Bool} {a : Act} {w : World} {i : Nat} {o : Oper} {rs : List Nat} (ho : ops[i]? = some o) (hd : i ∈ ds)
  (h : ∀ K' : Act → World → Prop,Shut (∀ a w,wpAnyLast P md ops Q S ds fuel (listed.setIfInBounds i true) a w → K' a w) → if Region.wanted o (yielded ops a.tmps) = true then Oper.wp P o a w K' Q else K' (a.put o.dst undef) w)
  (hs : AllReadyL P md ops Q S ds fuel listed a w rs) : AllReadyL P md ops Q S ds fuel listed a w (i :: rs) := fun j hj => by
 rcases List.mem_cons.1 hj with rfl | hj
 ·exact wpOp_step ho (fun K' hK => h K' (fun a w hW => hK a w ⟨fun hn => absurd hd hn,hW⟩))
 ·exact hs j hj
theorem wpAnyLast_ready {rs : List Nat} {fuel : Nat} {listed : Array Bool} {a : Act} {w : World} (hr : Region.ready md ops listed = rs) (hne : rs ≠ [])
 (h : AllReadyL P md ops Q S ds fuel listed a w rs) : wpAnyLast P md ops Q S ds (fuel + 1) listed a w := wpAnyLast_all hr hne h
theorem start_ {id n : Nat} {a : Act} {w : World} (l : Array Bool) (hm : P.follows .mixedOrders = true) (hn : ops.size = n) (hl : Array.replicate n false = l) (hS : S w.drew)
  (h : S w.drew → wpAnyLast P .any ops Q S ds n l a w.drew) : (Code.region id ops true).wp P Q a w := by
 subst hn
 subst hl
 exact wp_region_last hm (h hS)
def takeB (md : Region.Mode) (ops : Array Oper) (ds : List Nat) (l l' : Array Bool) (i : Nat) : Bool :=
 Region.noSelect ops && Region.free md ops l i && (Region.ready md ops l).contains i && Region.closedB md ops l && Region.lastB md ops l ds i && (l.setIfInBounds i true == l')
theorem take_ {i : Nat} {N : Option Tmp} {oi : Oper} {v : Value} {fuel : Nat} {l : Array Bool} {a : Act} {w : World} (l' : Array Bool) (hi : ops[i]? = some oi) (hN : oi.dst = N) (hc : takeB md ops ds l l' i = true)
  (hQ : ∀ c a w,Q (.panic c) (a.put oi.dst v) w → Q (.panic c) a w) (hy : YieldsIf P ops S oi v a) (hS : S w) {a' : Act} (ha : a.put N v = a')
  (h : wpAnyLast P md ops Q S ds fuel l' a' w) : wpAnyLast P md ops Q S ds (fuel + 1) l a w := by
 subst ha
 subst hN
 simp only [takeB,Bool.and_eq_true,beq_iff_eq] at hc
 obtain ⟨⟨⟨⟨⟨h1,h2⟩,h3⟩,h4⟩,h5⟩,h6⟩ := hc
 subst h6
 exact wpAnyLast_take hi h1 h2 h3 h4 h5 hQ hy hS h
def anyB (md : Region.Mode) (ops : Array Oper) (l l' : Array Bool) (i : Nat) : Bool :=
 Region.noSelect ops && Region.free md ops l i && (Region.ready md ops l).contains i && (l.setIfInBounds i true == l')
theorem pure_ {i : Nat} {N : Option Tmp} {oi : Oper} {v : Value} {fuel : Nat} {l : Array Bool} {a : Act} {w : World} (l' : Array Bool) (hi : ops[i]? = some oi) (hN : oi.dst = N) (hc : anyB md ops l l' i = true)
  (hQ : ∀ c a w,Q (.panic c) (a.put oi.dst v) w → Q (.panic c) a w) (hy : Yields P ops oi v a) {a' : Act} (ha : a.put N v = a')
  (h : wpAnyLast P md ops Q S ds fuel l' a' w) : wpAnyLast P md ops Q S ds (fuel + 1) l a w := by
 subst ha
 subst hN
 simp only [anyB,Bool.and_eq_true,beq_iff_eq] at hc
 obtain ⟨⟨⟨h1,h2⟩,h3⟩,h6⟩ := hc
 subst h6
 exact wpAnyLast_any hi (Region.noSelect_spec h1) hQ fuel l a w (Region.free_spec hi h2) (by simpa using h3) hy h
def readyB (md : Region.Mode) (ops : Array Oper) (l l' : Array Bool) (i : Nat) : Bool := (Region.ready md ops l == [i]) && (l.setIfInBounds i true == l')
theorem one_ {i : Nat} {N : Option Tmp} {oi : Oper} {fuel : Nat} {l : Array Bool} {a : Act} {w : World} (l' : Array Bool) (hi : ops[i]? = some oi) (hN : oi.dst = N) (hc : readyB md ops l l' i = true) (hd : i ∉ ds)
  (h : ∀ K : Act → World → Prop,Shut (∀ a' w',S w' → (S w' → wpAnyLast P md ops Q S ds fuel l' a' w') → K a' w') → if Region.wanted oi (yielded ops a.tmps) = true then Oper.wp P oi a w K Q else K (a.put N undef) w) :
  wpAnyLast P md ops Q S ds (fuel + 1) l a w := by
 subst hN
 simp only [readyB,Bool.and_eq_true,beq_iff_eq] at hc
 obtain ⟨h1,h2⟩ := hc
 subst h2
 exact wpAnyLast_ready h1 (by simp) (AllReadyL.cons hi hd (fun K hK => h K hK) AllReadyL.nil)
theorem last_ {i : Nat} {N : Option Tmp} {oi : Oper} {fuel : Nat} {l : Array Bool} {a : Act} {w : World} (l' : Array Bool) (hi : ops[i]? = some oi) (hN : oi.dst = N) (hc : readyB md ops l l' i = true) (hd : i ∈ ds)
  (h : ∀ K : Act → World → Prop,Shut (∀ a' w',wpAnyLast P md ops Q S ds fuel l' a' w' → K a' w') → if Region.wanted oi (yielded ops a.tmps) = true then Oper.wp P oi a w K Q else K (a.put N undef) w) :
  wpAnyLast P md ops Q S ds (fuel + 1) l a w := by
 subst hN
 simp only [readyB,Bool.and_eq_true,beq_iff_eq] at hc
 obtain ⟨h1,h2⟩ := hc
 subst h2
 exact wpAnyLast_ready h1 (by simp) (AllReadyL.cons_last hi hd (fun K hK => h K hK) AllReadyL.nil)
theorem done_ {l : Array Bool} {a : Act} {w : World} {n : Nat} (hr : (Region.ready md ops l == []) = true) (h : Q .normal a w) : wpAnyLast P md ops Q S ds n l a w := wpAnyLast_done (by simpa using hr) h n
theorem i64_w (n : Int) : IntKind.i64.wrap n = Go.RowKit.wrap64 n := by unfold Go.RowKit.wrap64; exact IntKind.wrap_i64 n
end
end Go.Proofs.YtbjddomocggjmaaGreatW.PrintLast
end
section
set_option linter.unusedVariables false
set_option linter.unusedSimpArgs false
namespace Go.Proofs.YtbjddomocggjmaaGreatW.PrintWords
open Go.RowKit
structure Aside0 (p : Prop) : Prop where mk :: (out : p)
structure Drawn0 (w w' : World) : Prop where mk :: (out : ∃ n,w' = w.drewN n)
theorem Drawn0.refl (w : World) : Drawn0 w w := ⟨⟨0,rfl⟩⟩
theorem Drawn0.step {w w' : World} (h : Drawn0 w w') (n : Nat) : Drawn0 w (w'.drewN n) := by
 obtain ⟨m,rfl⟩ := h
 exact ⟨⟨m + n,World.drewN_drewN ..⟩⟩
def bt (s : ByteArray) (i : Int) : Int := if h : i.toNat < s.size then ((s[i.toNat]'h).toNat : Int) else 0
theorem bt_at (s : ByteArray) (i : Int) : ∀ h : i.toNat < s.size,((s[i.toNat]'h).toNat : Int) = bt s i := fun h => by simp [bt,h]
theorem pw_cell_below {w w1 : World} (h : Below w.heap.size w w1) {a : Addr} {v : Value} (hc : w.cell? a = some v) : w1.cell? a = some v := (h.cell (World.block_lt_of_cell? w a hc)).trans hc
theorem own_base {w : World} {base : Nat} {e : TypeId} {size n : Nat} {v : Value} {xs : List Value} (h : w.ownsRow base e size v n xs) (k : Nat) (hk : v.ownBlock = some k) : base ≤ k := by
 rcases h.2 with ⟨rfl,_⟩ | ⟨g,cap,cur,rfl,hb,_⟩
 ·simp [Value.ownBlock] at hk
 ·have : g = k := by simpa [Value.ownBlock] using hk
  omega
theorem own_lt {w : World} {base : Nat} {e : TypeId} {size n : Nat} {v : Value} {xs : List Value} (h : w.ownsRow base e size v n xs) (k : Nat) (hk : v.ownBlock = some k) : k < w.heap.size := by
 rcases h.2 with ⟨rfl,_⟩ | ⟨g,cap,cur,rfl,hb,hh,_⟩
 ·simp [Value.ownBlock] at hk
 ·have : g = k := by simpa [Value.ownBlock] using hk
  subst this
  exact (Array.getElem?_eq_some_iff.1 hh).1
section
variable {P : Program} {ops : Array Oper} {rest : List Oper} {o : Oper} {a : Act} {Q : Exit → Act → World → Prop}
end
section
variable {P : Program}
end
section
variable {P : Program} {ops : Array Oper} {rest : List Oper} {o : Oper} {a : Act} {Q : Exit → Act → World → Prop}
end
def Reps {α : Type} (R : α → List Value → Prop) (size : Nat) (ps : List α) (cs : List Value) : Prop :=
 cs.length = ps.length * size ∧ ∀ j p,ps[j]? = some p → R p ((cs.drop (j * size)).take size)
theorem Reps.none {α : Type} (R : α → List Value → Prop) (size : Nat) : Reps R size [] [] := ⟨by simp,fun j p h => by simp at h⟩
theorem Reps.snoc {α : Type} {R : α → List Value → Prop} {size : Nat} {ps : List α} {cs c : List Value} {p : α} (h : Reps R size ps cs) (hp : R p c) (hc : c.length = size) : Reps R size (ps ++ [p]) (cs ++ c) := by
 refine ⟨by rw [List.length_append,h.1,hc,List.length_append,List.length_singleton,Nat.add_mul,Nat.one_mul],fun j q hq => ?_⟩
 rcases Nat.lt_or_ge j ps.length with hj | hj
 ·rw [List.getElem?_append_left hj] at hq
  have h1 : j * size + size ≤ cs.length := by rw [h.1, ← Nat.succ_mul]; exact Nat.mul_le_mul_right _ hj
  have h2 := h.2 j q hq
  rw [List.drop_append_of_le_length (by omega),List.take_append_of_le_length (by rw [List.length_drop]; omega)]
  exact h2
 ·have hj' : j = ps.length := by
   have := (List.getElem?_eq_some_iff.1 hq).1
   rw [List.length_append,List.length_singleton] at this
   omega
  subst hj'
  have hq' : p = q := by simpa using hq
  subst hq'
  rw [← h.1,List.drop_left, ← hc,List.take_length]
  exact hp
theorem Reps.imp_ {α : Type} {R R' : α → List Value → Prop} {size : Nat} {ps : List α} {cs : List Value} (h : Reps R size ps cs) (hR : ∀ p c,R p c → R' p c) : Reps R' size ps cs := ⟨h.1,fun j p hj => hR _ _ (h.2 j p hj)⟩
def ReadsRow {α : Type} (R : α → List Value → Prop) (size : Nat) (w : World) (A : Option Addr) (n : Nat) (ps : List α) : Prop :=
 ps.length = n ∧ n ≤ 9223372036854775807 ∧ (0 < n → ∃ ad,A = some ad ∧ ∀ j p,ps[j]? = some p → ∃ c,c.length = size ∧ R p c ∧ ∀ i u,c[i]? = some u → w.cell? (ad.add (j * size + i)) = some u)
theorem ReadsRow.get_ {α : Type} {R : α → List Value → Prop} {size : Nat} {w : World} {A : Option Addr} {n : Nat} {ps : List α} (h : ReadsRow R size w A n ps) (d : α) (i : Int) (h0 : 0 ≤ i) (h1 : i < n) :
  ∃ ad c,A = some ad ∧ c.length = size ∧ R (ps.getD i.toNat d) c ∧ ∀ j u,c[j]? = some u → w.cell? (ad.add (i.toNat * size + j)) = some u := by
 obtain ⟨ad,e,hc⟩ := h.2.2 (by omega)
 have hl : i.toNat < ps.length := by have := h.1; omega
 obtain ⟨c,hs,hr,hcell⟩ := hc i.toNat _ (List.getElem?_eq_getElem hl)
 refine ⟨ad,c,e,hs, ?_,hcell⟩
 rw [List.getD_eq_getElem?_getD,List.getElem?_eq_getElem hl]
 exact hr
theorem ReadsRow.imp_ {α : Type} {R R' : α → List Value → Prop} {size : Nat} {w w1 : World} {A : Option Addr} {n : Nat} {ps : List α} (h : ReadsRow R size w A n ps) (hb : Below w.heap.size w w1) (hR : ∀ p c,R p c → R' p c) : ReadsRow R' size w1 A n ps :=
 ⟨h.1,h.2.1,fun hn => by
  obtain ⟨ad,e,hc⟩ := h.2.2 hn
  refine ⟨ad,e,fun j p hj => ?_⟩
  obtain ⟨c,hs,hr,hcell⟩ := hc j p hj
  exact ⟨c,hs,hR _ _ hr,fun i u hu => pw_cell_below hb (hcell i u hu)⟩⟩
theorem own_reads_row {α : Type} {R : α → List Value → Prop} {w : World} {base n size : Nat} {e : TypeId} {v : Value} {ps : List α} {cs : List Value} (h : w.ownsRow base e size v n cs) (hR : Reps R size ps cs) (hn : ps.length = n) :
  ∃ A c,v = .slice A n c ∧ ReadsRow R size w A n ps := by
 rcases Nat.eq_zero_or_pos n with h0 | h0
 ·rcases h.2 with ⟨rfl,rfl⟩ | ⟨g,cap,cur,rfl,_⟩
  ·exact ⟨none,0,rfl,hn,by omega,fun hp => absurd hp (by omega)⟩
  ·exact ⟨_,cap,rfl,hn,by omega,fun hp => absurd hp (by omega)⟩
 ·obtain ⟨g,cap,rfl,_,_⟩ := h.form h0
  have hm : n ≤ 9223372036854775807 := by
   rcases h.2 with ⟨_,h1⟩ | ⟨g',cap',cur,he,_,_,h1,h2,_⟩
   ·omega
   ·simp only [maxLen] at h2
    omega
  refine ⟨_,cap,rfl,hn,hm,fun _ => ⟨_,rfl,fun j p hj => ⟨(cs.drop (j * size)).take size, ?_,hR.2 j p hj,fun i u hu => ?_⟩⟩⟩
  ·have hjl := (List.getElem?_eq_some_iff.1 hj).1
   have h1 : j * size + size ≤ cs.length := by rw [hR.1, ← Nat.succ_mul]; exact Nat.mul_le_mul_right _ hjl
   rw [List.length_take,List.length_drop]
   omega
  ·refine h.cells (g := g) rfl _ u ?_
   rw [List.getElem?_take] at hu
   split at hu
   ·rw [List.getElem?_drop] at hu
    exact hu
   ·cases hu
theorem add_field (ad : Addr) (m j : Nat) (hj : 0 < j) : ad.add (m + j) = ⟨(ad.add m).block,(ad.add m).off + j,none⟩ := by
 unfold Addr.add
 by_cases hm : m = 0
 ·subst hm
  simp [Nat.ne_of_gt hj]
 ·simp [hm,Nat.add_assoc]
section
variable {P : Program} {ops : Array Oper} {rest : List Oper} {o : Oper} {a : Act} {Q : Exit → Act → World → Prop}
end
def Ev {α : Type} (g : Nat → Option α) (r : α) : Prop := ∃ K, ∀ k,K ≤ k → g k = some r
theorem Ev.now {α : Type} (r : α) : Ev (fun _ => some r) r := ⟨0,fun _ _ => rfl⟩
theorem Ev.rounds {α : Type} {g : Nat → Option α} {r : α} (h : Ev g r) : ∃ k,g k = some r := by
 obtain ⟨K,h⟩ := h
 exact ⟨K,h K (Nat.le_refl _)⟩
theorem Ev.step {α : Type} {g f : Nat → Option α} {r : α} (h : ∀ k,g (k + 1) = f k) (k : Ev f r) : Ev g r := by
 obtain ⟨K,k⟩ := k
 refine ⟨K + 1,fun n hn => ?_⟩
 obtain ⟨m,rfl⟩ : ∃ m,n = m + 1 := ⟨n - 1,by omega⟩
 rw [h]
 exact k m (by omega)
section
variable {P : Program} {ops : Array Oper} {o : Oper} {a : Act} {Q : Exit → Act → World → Prop} {K : Act → World → Prop}
end
theorem own_weaken {w : World} {base base' : Nat} {e : TypeId} {size n : Nat} {v : Value} {xs : List Value} (h : w.ownsRow base e size v n xs) (hb : base' ≤ base) : w.ownsRow base' e size v n xs := by
 obtain ⟨h1,h2⟩ := h
 refine ⟨h1, ?_⟩
 rcases h2 with h2 | ⟨g,cap,cur,rfl,hg,r⟩
 ·exact .inl h2
 ·exact .inr ⟨g,cap,cur,rfl,Nat.le_trans hb hg,r⟩
section
variable {α : Type} {enc : α → Value} {d : α}
end
section
variable {α : Type} {P : Program} {ops : Array Oper} {rest : List Oper} {o : Oper} {a : Act} {Q : Exit → Act → World → Prop}
end
section
variable {P : Program}
end
theorem own_le {w : World} {base n m c size : Nat} {e : TypeId} {A : Option Addr} {xs : List Value} (h : w.ownsRow base e size (.slice A m c) n xs) : m ≤ c := by
 rcases h.2 with ⟨he,_⟩ | ⟨g,cap,cur,he,_,_,hnc,_⟩
 ·injection he with _ h2 h3
  omega
 ·injection he with _ h2 h3
  omega
def OwnRow {α : Type} (R : α → List Value → Prop) (e : TypeId) (size : Nat) (w : World) (base : Nat) (v : Value) (ps : List α) : Prop :=
 ∃ inner,w.ownsRow base e size v ps.length inner ∧ Reps R size ps inner
section
variable {α : Type} {R R' : α → List Value → Prop} {e : TypeId} {size : Nat} {w w1 : World} {base : Nat} {v : Value} {ps : List α}
theorem OwnRow.imp_ (h : OwnRow R e size w base v ps) (hR : ∀ p c,R p c → R' p c) : OwnRow R' e size w base v ps := by
 obtain ⟨inner,ho,hr⟩ := h
 exact ⟨inner,ho,hr.imp_ hR⟩
theorem OwnRow.reads (h : OwnRow R e size w base v ps) : ∃ A c,v = .slice A ps.length c ∧ ps.length ≤ c ∧ ReadsRow R size w A ps.length ps := by
 obtain ⟨inner,ho,hr⟩ := h
 obtain ⟨A,c,rfl,hrow⟩ := own_reads_row ho hr rfl
 exact ⟨A,c,rfl,own_le ho,hrow⟩
end
section
variable {P : Program} {ops : Array Oper} {rest : List Oper} {o : Oper} {a : Act} {Q : Exit → Act → World → Prop} {α : Type} {R : α → List Value → Prop}
end
section
variable {P : Program} {ops : Array Oper} {o : Oper} {a : Act} {Q : Exit → Act → World → Prop} {K : Act → World → Prop} {α : Type} {R : α → List Value → Prop}
end
theorem ReadsRow.inner_ {α : Type} {R : α → List Value → Prop} {size : Nat} {w : World} {ad : Addr} {n : Nat} {ps : List α} (h : ReadsRow R size w (some ad) n ps) :
  ∃ inner,Reps R size ps inner ∧ ∀ j u,inner[j]? = some u → w.cell? (ad.add j) = some u := by
 have key : ∀ m,m ≤ ps.length → ∃ inner,Reps R size (ps.take m) inner ∧ ∀ j u,inner[j]? = some u → w.cell? (ad.add j) = some u := by
  intro m
  induction m with
  | zero => exact fun _ => ⟨[],Reps.none _ _,fun j u hu => by simp at hu⟩
  | succ m ih =>
   intro hm
   obtain ⟨inner,hr,hc⟩ := ih (by omega)
   obtain ⟨ad',he,hcell⟩ := h.2.2 (by have := h.1; omega)
   injection he with he
   subst he
   obtain ⟨c,hcl,hp,hcc⟩ := hcell m _ (List.getElem?_eq_getElem (show m < ps.length by omega))
   refine ⟨inner ++ c, ?_,fun j u hu => ?_⟩
   ·rw [List.take_succ_eq_append_getElem (show m < ps.length by omega)]
    exact hr.snoc hp hcl
   ·have hil : inner.length = m * size := by rw [hr.1,List.length_take,Nat.min_eq_left (by omega)]
    rcases Nat.lt_or_ge j inner.length with hj | hj
    ·rw [List.getElem?_append_left hj] at hu
     exact hc j u hu
    ·rw [List.getElem?_append_right hj] at hu
     have := hcc (j - inner.length) u hu
     rwa [hil,Nat.add_sub_cancel' (by omega)] at this
 obtain ⟨inner,hr,hc⟩ := key ps.length (Nat.le_refl _)
 rw [List.take_length] at hr
 exact ⟨inner,hr,hc⟩
section
variable {α : Type} {P : Program}
end
section
variable {P : Program} {ops : Array Oper} {rest : List Oper} {o : Oper} {a : Act} {Q : Exit → Act → World → Prop}
end
structure Kd (α : Type) where
 sz : Nat
 E : List Nat
 K : World → α → List Value → Prop
 M : World → Nat → (Nat → Prop) → α → List Value → Prop
 K_len : ∀ {w x cs},K w x cs → cs.length = sz
 K_one : ∀ {w x cs},K w x cs → ∀ u ∈ cs,u.oneCell' = true
 K_below : ∀ {w w1 : World} {x cs},Below w.heap.size w w1 → K w x cs → K w1 x cs
 K_of_M : ∀ {w base ok x cs},M w base ok x cs → K w x cs
 M_mono : ∀ {w base ok ok' x cs},(∀ k,ok k → ok' k) → M w base ok x cs → M w base ok' x cs
 M_bound : ∀ {w : World} {base ok x cs},M w base ok x cs → M w base (fun k => ok k ∧ base ≤ k ∧ k < w.heap.size ∧ ∃ q,q ∈ E ∧ ∃ cells,w.heap[k]? = some (.cells cells q (0,0))) x cs
 M_move : ∀ {w w1 : World} {base ok x cs},(∀ k,ok k → w1.heap[k]? = w.heap[k]?) → M w base ok x cs → M w1 base ok x cs
 M_lower : ∀ {w base base' ok x cs},base' ≤ base → M w base ok x cs → M w base' ok x cs
theorem own_move {w w1 : World} {base : Nat} {e : TypeId} {size n : Nat} {v : Value} {xs : List Value} (h : w.ownsRow base e size v n xs) (hm : ∀ k,v.ownBlock = some k → w1.heap[k]? = w.heap[k]?) : w1.ownsRow base e size v n xs := by
 obtain ⟨h1,h2⟩ := h
 refine ⟨h1, ?_⟩
 rcases h2 with h2 | ⟨g,cap,cur,rfl,hg,hh,r⟩
 ·exact .inl h2
 ·exact .inr ⟨g,cap,cur,rfl,hg,(hm g (by simp [Value.ownBlock])).trans hh,r⟩
theorem own_typed {w : World} {base : Nat} {e : TypeId} {size n : Nat} {v : Value} {xs : List Value} (h : w.ownsRow base e size v n xs) (k : Nat) (hk : v.ownBlock = some k) : ∃ cells,w.heap[k]? = some (.cells cells e (0,0)) := by
 rcases h.2 with ⟨rfl,_⟩ | ⟨g,cap,cur,rfl,hg,hh,r⟩
 ·simp [Value.ownBlock] at hk
 ·have : g = k := by simpa [Value.ownBlock] using hk
  subst this
  exact ⟨cur,hh⟩
namespace Kd
def C {α : Type} (d : Kd α) (w : World) (A : Option Addr) (n : Nat) (xs : List α) : Prop := ReadsRow (d.K w) d.sz w A n xs
def R {α : Type} (d : Kd α) (e : Nat) (w : World) (base : Nat) (ok : Nat → Prop) (v : Value) (xs : List α) : Prop :=
 (∀ k,v.ownBlock = some k → ok k) ∧ OwnRow (d.M w base (fun k => ok k ∧ some k ≠ v.ownBlock)) e d.sz w base v xs
section
variable {α : Type} {d : Kd α} {e : Nat} {w w1 : World} {base : Nat} {ok ok' : Nat → Prop} {v : Value} {xs : List α}
theorem C_below {A : Option Addr} {n : Nat} (h : d.C w A n xs) (hb : Below w.heap.size w w1) : d.C w1 A n xs := ReadsRow.imp_ h hb (fun _ _ hp => d.K_below hb hp)
theorem R_mono (h : d.R e w base ok v xs) (hok : ∀ k,ok k → ok' k) : d.R e w base ok' v xs := ⟨fun k hk => hok k (h.1 k hk),h.2.imp_ (fun _ _ hp => d.M_mono (fun k hk => ⟨hok k hk.1,hk.2⟩) hp)⟩
theorem R_bound (h : d.R e w base ok v xs) : d.R e w base (fun k => ok k ∧ base ≤ k ∧ k < w.heap.size ∧ ∃ q,q ∈ e :: d.E ∧ ∃ cells,w.heap[k]? = some (.cells cells q (0,0))) v xs := by
 obtain ⟨h0,inner,ho,hr⟩ := h
 refine ⟨fun k hk => ?_,inner,ho,hr.imp_ (fun _ _ hp => d.M_mono (fun k hk => ?_) (d.M_bound hp))⟩
 ·obtain ⟨cells,hc⟩ := own_typed ho k hk
  exact ⟨h0 k hk,own_base ho k hk,own_lt ho k hk,e,List.mem_cons_self,cells,hc⟩
 ·obtain ⟨⟨h1,h2⟩,h3,h4,q,hq,hc⟩ := hk
  exact ⟨⟨h1,h3,h4,q,List.mem_cons_of_mem _ hq,hc⟩,h2⟩
theorem R_move (h : d.R e w base ok v xs) (hm : ∀ k,ok k → w1.heap[k]? = w.heap[k]?) : d.R e w1 base ok v xs := by
 obtain ⟨h0,inner,ho,hr⟩ := h
 exact ⟨h0,inner,own_move ho (fun k hk => hm k (h0 k hk)),hr.imp_ (fun _ _ hp => d.M_move (fun k hk => hm k hk.1) hp)⟩
theorem R_lower {base' : Nat} (h : d.R e w base ok v xs) (hb : base' ≤ base) : d.R e w base' ok v xs := by
 obtain ⟨h0,inner,ho,hr⟩ := h
 exact ⟨h0,inner,own_weaken ho hb,hr.imp_ (fun _ _ hp => d.M_lower hb hp)⟩
theorem R_reads (h : d.R e w base ok v xs) : ∃ A c,v = .slice A xs.length c ∧ xs.length ≤ c ∧ d.C w A xs.length xs := by
 obtain ⟨A,c,he,hl,hr⟩ := OwnRow.reads h.2
 exact ⟨A,c,he,hl,hr.imp_ (Below.refl _ _) (fun _ _ hp => d.K_of_M hp)⟩
end
def scalar {α : Type} (enc : α → Value) (h1 : ∀ x,(enc x).oneCell' = true) : Kd α where
 sz := 1
 E := []
 K := fun _ x cs => cs = [enc x]
 M := fun _ _ _ x cs => cs = [enc x]
 K_len := fun h => by rw [h]; rfl
 K_one := fun h u hu => by
  rw [h] at hu
  rw [List.mem_singleton.1 hu]
  exact h1 _
 K_below := fun _ h => h
 K_of_M := fun h => h
 M_mono := fun _ h => h
 M_bound := fun h => h
 M_move := fun _ h => h
 M_lower := fun _ h => h
def int (k : IntKind) : Kd Int := scalar (Value.int k) (fun _ => rfl)
def bool : Kd Bool := scalar Value.bool (fun _ => rfl)
def string : Kd ByteArray := scalar Value.string (fun _ => rfl)
def slice {α : Type} (e : Nat) (d : Kd α) : Kd (List α) where
 sz := 1
 E := e :: d.E
 K := fun w xs cs => ∃ A c,cs = [.slice A xs.length c] ∧ xs.length ≤ c ∧ d.C w A xs.length xs
 M := fun w base ok xs cs => ∃ v,cs = [v] ∧ d.R e w base ok v xs
 K_len := by
  rintro w x cs ⟨A,c,rfl,_⟩
  rfl
 K_one := by
  rintro w x cs ⟨A,c,rfl,_⟩ u hu
  rw [List.mem_singleton.1 hu]
  rfl
 K_below := by
  rintro w w1 x cs hb ⟨A,c,rfl,hl,hr⟩
  exact ⟨A,c,rfl,hl,C_below hr hb⟩
 K_of_M := by
  rintro w base ok x cs ⟨v,rfl,h⟩
  obtain ⟨A,c,rfl,hl,hr⟩ := R_reads h
  exact ⟨A,c,rfl,hl,hr⟩
 M_mono := by
  rintro w base ok ok' x cs hok ⟨v,rfl,h⟩
  exact ⟨v,rfl,R_mono h hok⟩
 M_bound := by
  rintro w base ok x cs ⟨v,rfl,h⟩
  exact ⟨v,rfl,R_bound h⟩
 M_move := by
  rintro w w1 base ok x cs hm ⟨v,rfl,h⟩
  exact ⟨v,rfl,R_move h hm⟩
 M_lower := by
  rintro w base base' ok x cs hb ⟨v,rfl,h⟩
  exact ⟨v,rfl,R_lower h hb⟩
def pair {α β : Type} (a : Kd α) (b : Kd β) : Kd (α × β) where
 sz := a.sz + b.sz
 E := a.E ++ b.E
 K := fun w x cs => ∃ c0 c1,cs = c0 ++ c1 ∧ a.K w x.1 c0 ∧ b.K w x.2 c1
 M := fun w base ok x cs => ∃ c0 c1,cs = c0 ++ c1 ∧ a.M w base ok x.1 c0 ∧ b.M w base ok x.2 c1
 K_len := by
  rintro w x cs ⟨c0,c1,rfl,h0,h1⟩
  rw [List.length_append,a.K_len h0,b.K_len h1]
 K_one := by
  rintro w x cs ⟨c0,c1,rfl,h0,h1⟩ u hu
  rcases List.mem_append.1 hu with hu | hu
  ·exact a.K_one h0 u hu
  ·exact b.K_one h1 u hu
 K_below := by
  rintro w w1 x cs hb ⟨c0,c1,rfl,h0,h1⟩
  exact ⟨c0,c1,rfl,a.K_below hb h0,b.K_below hb h1⟩
 K_of_M := by
  rintro w base ok x cs ⟨c0,c1,rfl,h0,h1⟩
  exact ⟨c0,c1,rfl,a.K_of_M h0,b.K_of_M h1⟩
 M_mono := by
  rintro w base ok ok' x cs hok ⟨c0,c1,rfl,h0,h1⟩
  exact ⟨c0,c1,rfl,a.M_mono hok h0,b.M_mono hok h1⟩
 M_bound := by
  rintro w base ok x cs ⟨c0,c1,rfl,h0,h1⟩
  refine ⟨c0,c1,rfl,a.M_mono ?_ (a.M_bound h0),b.M_mono ?_ (b.M_bound h1)⟩
  ·rintro k ⟨h2,h3,h4,q,hq,hc⟩
   exact ⟨h2,h3,h4,q,List.mem_append_left _ hq,hc⟩
  ·rintro k ⟨h2,h3,h4,q,hq,hc⟩
   exact ⟨h2,h3,h4,q,List.mem_append_right _ hq,hc⟩
 M_move := by
  rintro w w1 base ok x cs hm ⟨c0,c1,rfl,h0,h1⟩
  exact ⟨c0,c1,rfl,a.M_move hm h0,b.M_move hm h1⟩
 M_lower := by
  rintro w base base' ok x cs hb ⟨c0,c1,rfl,h0,h1⟩
  exact ⟨c0,c1,rfl,a.M_lower hb h0,b.M_lower hb h1⟩
def iso {α β : Type} (d : Kd α) (f : β → α) : Kd β where
 sz := d.sz
 E := d.E
 K := fun w x cs => d.K w (f x) cs
 M := fun w base ok x cs => d.M w base ok (f x) cs
 K_len := d.K_len
 K_one := d.K_one
 K_below := d.K_below
 K_of_M := d.K_of_M
 M_mono := d.M_mono
 M_bound := d.M_bound
 M_move := d.M_move
 M_lower := d.M_lower
def bot {α : Type} (sz : Nat) (E : List Nat) : Kd α where
 sz := sz
 E := E
 K := fun _ _ _ => False
 M := fun _ _ _ _ _ => False
 K_len := fun h => h.elim
 K_one := fun h => h.elim
 K_below := fun _ h => h
 K_of_M := fun h => h
 M_mono := fun _ h => h
 M_bound := fun h => h
 M_move := fun _ h => h
 M_lower := fun _ h => h
def upto {α : Type} (F : Kd α → Kd α) (sz : Nat) (E : List Nat) : Nat → Kd α
 | 0 => bot sz E
 | n + 1 => F (upto F sz E n)
def fix {α : Type} (F : Kd α → Kd α) (sz : Nat) (E : List Nat) (hs : ∀ n,(upto F sz E n).sz = sz) (hE : ∀ n q,q ∈ (upto F sz E n).E → q ∈ E) : Kd α where
 sz := sz
 E := E
 K := fun w x cs => ∃ n,(upto F sz E n).K w x cs
 M := fun w base ok x cs => ∃ n,(upto F sz E n).M w base ok x cs
 K_len := by
  rintro w x cs ⟨n,h⟩
  rw [(upto F sz E n).K_len h,hs n]
 K_one := by
  rintro w x cs ⟨n,h⟩
  exact (upto F sz E n).K_one h
 K_below := by
  rintro w w1 x cs hb ⟨n,h⟩
  exact ⟨n,(upto F sz E n).K_below hb h⟩
 K_of_M := by
  rintro w base ok x cs ⟨n,h⟩
  exact ⟨n,(upto F sz E n).K_of_M h⟩
 M_mono := by
  rintro w base ok ok' x cs hok ⟨n,h⟩
  exact ⟨n,(upto F sz E n).M_mono hok h⟩
 M_bound := by
  rintro w base ok x cs ⟨n,h⟩
  refine ⟨n,(upto F sz E n).M_mono ?_ ((upto F sz E n).M_bound h)⟩
  rintro k ⟨h2,h3,h4,q,hq,hc⟩
  exact ⟨h2,h3,h4,q,hE n q hq,hc⟩
 M_move := by
  rintro w w1 base ok x cs hm ⟨n,h⟩
  exact ⟨n,(upto F sz E n).M_move hm h⟩
 M_lower := by
  rintro w base base' ok x cs hb ⟨n,h⟩
  exact ⟨n,(upto F sz E n).M_lower hb h⟩
theorem C_get {α : Type} {d : Kd α} {w : World} {A : Option Addr} {n : Nat} {xs : List α} (h : d.C w A n xs) (z : α) (i : Int) (h0 : 0 ≤ i) (h1 : i < n) :
 ∃ ad c,A = some ad ∧ c.length = d.sz ∧ d.K w (xs.getD i.toNat z) c ∧ ∀ j u,c[j]? = some u → w.cell? (ad.add (i.toNat * d.sz + j)) = some u := ReadsRow.get_ h z i h0 h1
section
variable {P : Program} {ops : Array Oper} {rest : List Oper} {o : Oper} {a : Act} {Q : Exit → Act → World → Prop} {α : Type}
end
section
variable {P : Program} {ops : Array Oper} {o : Oper} {a : Act} {Q : Exit → Act → World → Prop} {Kc : Act → World → Prop} {α : Type}
end
end Kd
namespace Kd
structure Mono {α β : Type} (F : Kd α → Kd β) : Prop where
 sz : ∀ d d' : Kd α,d.sz = d'.sz → (F d).sz = (F d').sz
 K : ∀ d d' : Kd α,d.sz = d'.sz → (∀ w x cs,d.K w x cs → d'.K w x cs) → ∀ w x cs,(F d).K w x cs → (F d').K w x cs
 M : ∀ d d' : Kd α,d.sz = d'.sz → (∀ w base ok x cs,d.M w base ok x cs → d'.M w base ok x cs) → ∀ w base ok x cs,(F d).M w base ok x cs → (F d').M w base ok x cs
theorem mono_const {α β : Type} (k : Kd β) : Mono (fun _ : Kd α => k) := ⟨fun _ _ _ => rfl,fun _ _ _ _ _ _ _ h => h,fun _ _ _ _ _ _ _ _ _ h => h⟩
theorem mono_id {α : Type} : Mono (fun d : Kd α => d) := ⟨fun _ _ h => h,fun _ _ _ h => h,fun _ _ _ h => h⟩
theorem C_imp {α : Type} {d d' : Kd α} (hs : d.sz = d'.sz) (h : ∀ w x cs,d.K w x cs → d'.K w x cs) {w : World} {A : Option Addr} {n : Nat} {xs : List α} (hc : d.C w A n xs) : d'.C w A n xs := by
 unfold C at hc ⊢
 rw [← hs]
 exact hc.imp_ (Below.refl _ _) (fun _ _ hp => h _ _ _ hp)
theorem R_imp {α : Type} {d d' : Kd α} (hs : d.sz = d'.sz) (h : ∀ w base ok x cs,d.M w base ok x cs → d'.M w base ok x cs) {e : Nat} {w : World} {base : Nat} {ok : Nat → Prop} {v : Value} {xs : List α} (hr : d.R e w base ok v xs) : d'.R e w base ok v xs := by
 unfold R at hr ⊢
 rw [← hs]
 exact ⟨hr.1,hr.2.imp_ (fun _ _ hp => h _ _ _ _ _ hp)⟩
theorem mono_slice {α β : Type} (e : Nat) {G : Kd α → Kd β} (hG : Mono G) : Mono (fun d => slice e (G d)) := by
 refine ⟨fun _ _ _ => rfl, ?_, ?_⟩
 ·rintro d d' hs h w x cs ⟨A,c,rfl,hl,hr⟩
  exact ⟨A,c,rfl,hl,C_imp (hG.sz d d' hs) (hG.K d d' hs h) hr⟩
 ·rintro d d' hs h w base ok x cs ⟨v,rfl,hr⟩
  exact ⟨v,rfl,R_imp (hG.sz d d' hs) (hG.M d d' hs h) hr⟩
theorem mono_pair {α β γ : Type} {G : Kd α → Kd β} {H : Kd α → Kd γ} (hG : Mono G) (hH : Mono H) : Mono (fun d => pair (G d) (H d)) := by
 refine ⟨fun d d' hs => ?_, ?_, ?_⟩
 ·show (G d).sz + (H d).sz = (G d').sz + (H d').sz
  rw [hG.sz d d' hs,hH.sz d d' hs]
 ·rintro d d' hs h w x cs ⟨c0,c1,rfl,h0,h1⟩
  exact ⟨c0,c1,rfl,hG.K d d' hs h _ _ _ h0,hH.K d d' hs h _ _ _ h1⟩
 ·rintro d d' hs h w base ok x cs ⟨c0,c1,rfl,h0,h1⟩
  exact ⟨c0,c1,rfl,hG.M d d' hs h _ _ _ _ _ h0,hH.M d d' hs h _ _ _ _ _ h1⟩
theorem mono_iso {α β γ : Type} {G : Kd α → Kd β} (f : γ → β) (hG : Mono G) : Mono (fun d => iso (G d) f) :=
 ⟨hG.sz,fun d d' hs h w x cs => hG.K d d' hs h w (f x) cs,fun d d' hs h w base ok x cs => hG.M d d' hs h w base ok (f x) cs⟩
def Sub {α β : Type} (F : Kd α → Kd β) (E : List Nat) : Prop := ∀ d : Kd α,(∀ q,q ∈ d.E → q ∈ E) → ∀ q,q ∈ (F d).E → q ∈ E
theorem sub_const {α β : Type} {E : List Nat} (k : Kd β) (h : ∀ q,q ∈ k.E → q ∈ E) : Sub (fun _ : Kd α => k) E := fun _ _ => h
theorem sub_id {α : Type} {E : List Nat} : Sub (fun d : Kd α => d) E := fun _ h => h
theorem sub_slice {α β : Type} {E : List Nat} (e : Nat) {G : Kd α → Kd β} (he : e ∈ E) (hG : Sub G E) : Sub (fun d => slice e (G d)) E := fun d h q hq => by
 rcases List.mem_cons.1 hq with rfl | hq
 ·exact he
 ·exact hG d h q hq
theorem sub_pair {α β γ : Type} {E : List Nat} {G : Kd α → Kd β} {H : Kd α → Kd γ} (hG : Sub G E) (hH : Sub H E) : Sub (fun d => pair (G d) (H d)) E := fun d h q hq => by
 rcases List.mem_append.1 hq with hq | hq
 ·exact hG d h q hq
 ·exact hH d h q hq
theorem sub_iso {α β γ : Type} {E : List Nat} {G : Kd α → Kd β} (f : γ → β) (hG : Sub G E) : Sub (fun d => iso (G d) f) E := hG
theorem upto_E {α : Type} {F : Kd α → Kd α} {sz : Nat} {E : List Nat} (h : Sub F E) : ∀ n q,q ∈ (upto F sz E n).E → q ∈ E
 | 0,_,hq => hq
 | n + 1,q,hq => h _ (upto_E h n) q hq
theorem upto_sz {α : Type} {F : Kd α → Kd α} {sz : Nat} {E : List Nat} (h : ∀ d : Kd α,(F d).sz = sz) : ∀ n,(upto F sz E n).sz = sz
 | 0 => rfl
 | _ + 1 => h _
section
variable {α : Type} {F : Kd α → Kd α} {sz : Nat} {E : List Nat} {hs : ∀ n,(upto F sz E n).sz = sz} {hE : ∀ n q,q ∈ (upto F sz E n).E → q ∈ E}
theorem upto_K (hm : Mono F) (hs : ∀ n,(upto F sz E n).sz = sz) : ∀ n {w x cs},(upto F sz E n).K w x cs → (upto F sz E (n + 1)).K w x cs
 | 0,_,_,_,h => h.elim
 | n + 1,_,_,_,h => hm.K _ _ (by rw [hs n,hs (n + 1)]) (fun _ _ _ hk => upto_K hm hs n hk) _ _ _ h
theorem upto_K_le (hm : Mono F) (hs : ∀ n,(upto F sz E n).sz = sz) {n m : Nat} (hnm : n ≤ m) {w x cs} (h : (upto F sz E n).K w x cs) : (upto F sz E m).K w x cs := by
 obtain ⟨j,rfl⟩ := Nat.exists_eq_add_of_le hnm
 induction j with
 | zero => exact h
 | succ j ih => exact upto_K hm hs _ (ih (by omega))
theorem fix_C {n : Nat} {w : World} {A : Option Addr} {m : Nat} {xs : List α} (h : (upto F sz E n).C w A m xs) : (fix F sz E hs hE).C w A m xs := C_imp (d' := fix F sz E hs hE) (hs n) (fun w x cs hp => (⟨n,hp⟩ : ∃ n,(upto F sz E n).K w x cs)) h
theorem bounded {P : Nat → Nat → Prop} (hP : ∀ n m j,n ≤ m → P n j → P m j) : ∀ m,(∀ j,j < m → ∃ n,P n j) → ∃ N, ∀ j,j < m → P N j
 | 0,_ => ⟨0,fun j hj => absurd hj (Nat.not_lt_zero j)⟩
 | m + 1,h => by
  obtain ⟨N,hN⟩ := bounded hP m (fun j hj => h j (by omega))
  obtain ⟨n,hn⟩ := h m (by omega)
  refine ⟨max N n,fun j hj => ?_⟩
  rcases Nat.lt_or_ge j m with hj' | hj'
  ·exact hP N _ j (Nat.le_max_left _ _) (hN j hj')
  ·have : j = m := by omega
   subst this
   exact hP n _ j (Nat.le_max_right _ _) hn
theorem fix_C_back (hm : Mono F) {w : World} {A : Option Addr} {m : Nat} {xs : List α} (h : (fix F sz E hs hE).C w A m xs) : ∃ n,(upto F sz E n).C w A m xs := by
 rcases Nat.eq_zero_or_pos m with hz | hpos
 ·subst hz
  exact ⟨0,h.1,h.2.1,fun hp => absurd hp (Nat.lt_irrefl 0)⟩
 ·obtain ⟨ad,e,hc⟩ := h.2.2 hpos
  obtain ⟨N,hN⟩ := bounded (P := fun n j => ∀ p,xs[j]? = some p → ∃ c,c.length = sz ∧ (upto F sz E n).K w p c ∧ ∀ i u,c[i]? = some u → w.cell? (ad.add (j * sz + i)) = some u)
   (fun n n' j hnm hp p hj => by
    obtain ⟨c,h1,h2,h3⟩ := hp p hj
    exact ⟨c,h1,upto_K_le hm hs hnm h2,h3⟩) xs.length
   (fun j hj => by
    obtain ⟨c,h1,⟨n,h2⟩,h3⟩ := hc j _ (List.getElem?_eq_getElem hj)
    refine ⟨n,fun p hp => ?_⟩
    rw [List.getElem?_eq_getElem hj] at hp
    injection hp with hp
    rw [← hp]
    exact ⟨c,h1,h2,h3⟩)
  refine ⟨N,h.1,h.2.1,fun _ => ⟨ad,e,fun j p hj => ?_⟩⟩
  rw [hs N]
  exact hN j (List.getElem?_eq_some_iff.1 hj).1 p hj
theorem upto_C_le (hm : Mono F) (hs : ∀ n,(upto F sz E n).sz = sz) {n m : Nat} (hnm : n ≤ m) {w : World} {A : Option Addr} {l : Nat} {xs : List α} (h : (upto F sz E n).C w A l xs) : (upto F sz E m).C w A l xs := C_imp (by rw [hs n,hs m]) (fun _ _ _ hp => upto_K_le hm hs hnm hp) h
end
end Kd
namespace Kd
end Kd
namespace Kd
section
variable {α β : Type} {d : Kd α} {d' : Kd β} {e e' : Nat} {w w1 W : World} {base b b' : Nat} {ok ok' okv oku : Nat → Prop} {v u : Value} {xs : List α} {ys : List β}
end
section
variable {w W : World} {A : Option Addr} {n : Nat}
variable {α : Type} {enc : α → Value} {h1 : ∀ x,(enc x).oneCell' = true} {e base g cap : Nat} {ok : Nat → Prop} {xs : List α}
end
section
variable {P : Program} {ops : Array Oper} {rest : List Oper} {o : Oper} {a : Act} {Q : Exit → Act → World → Prop}
variable {α : Type}
end
end Kd
section
variable {P : Program}
end
section
variable {w w1 : World} {base n size : Nat} {e : TypeId} {v : Value} {xs : List Value}
end
section
variable {P : Program}
end
namespace Kd
section
variable {α : Type} {d : Kd α} {e : Nat} {w w1 W : World} {base : Nat} {ok ok' : Nat → Prop} {v : Value} {xs : List α}
end
section
variable {P : Program} {ops : Array Oper} {rest : List Oper} {o : Oper} {a : Act} {Q' : Exit → Act → World → Prop} {Kc : Act → World → Prop} {α : Type}
end
end Kd
namespace Kd
section
variable {α : Type} {d : Kd α} {e e' : Nat} {w w1 W : World} {base : Nat} {ok : Nat → Prop} {u v : Value} {xs : List α}
end
end Kd
namespace Kd
section
variable {α : Type} {d : Kd α} {e base g n cap : Nat} {ok okp : Nat → Prop} {W : World} {xs : List α}
end
end Kd
namespace Kd
section
variable {α : Type} {F : Kd α → Kd α} {sz : Nat} {E : List Nat} {hs : ∀ n,(upto F sz E n).sz = sz} {hE : ∀ n q,q ∈ (upto F sz E n).E → q ∈ E}
end
end Kd
namespace Kd
section
variable {P : Program} {ops : Array Oper} {rest : List Oper} {o : Oper} {a : Act} {Q : Exit → Act → World → Prop} {α : Type}
end
end Kd
namespace Kd
section
variable {P : Program} {ops : Array Oper} {rest : List Oper} {o : Oper} {a : Act} {Q : Exit → Act → World → Prop} {α : Type}
end
end Kd
namespace Kd
section
variable {α : Type} {k : Kd α} {w : World} {A : Option Addr} {xs : List α} {m c : Nat}
end
end Kd
section
variable {P : Program}
end
namespace Kd
section
variable {α β : Type} {d : Kd α} {d' : Kd β} {e e' base base' n : Nat} {ok ok' : Nat → Prop} {w W w1 W1 : World} {v u : Value} {xs : List α} {ys : List β} {A : Option Addr} {c : Nat}
end
section
variable {α : Type} {enc : α → Value} {h1 : ∀ x,(enc x).oneCell' = true} {w W : World} {A : Option Addr} {n g : Nat} {xs : List α}
end
end Kd
namespace Kd
section
variable {α : Type} {d : Kd α} {e base g : Nat} {ok : Nat → Prop} {w w1 : World} {v : Value} {xs : List α} {o : Obj}
end
end Kd
section
variable {P : Program} {ops : Array Oper} {rest : List Oper} {o : Oper} {a : Act} {Q : Exit → Act → World → Prop}
end
namespace Kd
section
variable {α : Type} {enc : α → Value} {h1 : ∀ x,(enc x).oneCell' = true} {e base g n cap : Nat} {ok : Nat → Prop} {W : World} {xs : List α}
end
end Kd
section
variable {P : Program} {ops : Array Oper} {rest : List Oper} {o : Oper} {a : Act} {Q : Exit → Act → World → Prop}
end
namespace Kd
section
variable {α : Type} {enc : α → Value} {h1 : ∀ x,(enc x).oneCell' = true} {e base g n cap : Nat} {ok : Nat → Prop} {W : World} {xs : List α}
end
end Kd
section
variable {P : Program} {ops : Array Oper} {rest : List Oper} {o : Oper} {a : Act} {Q : Exit → Act → World → Prop} {W : World}
end
section
variable {P : Program} {ops : Array Oper} {o : Oper} {a : Act} {Q : Exit → Act → World → Prop} {Kc : Act → World → Prop}
namespace Kd
variable {α : Type}
end Kd
end
section
variable {P : Program} {tmps : Array Value} {w : World}
end
namespace Kd
section
variable {P : Program} {α : Type}
end
section
variable {P : Program} {ops : Array Oper} {rest : List Oper} {o : Oper} {a : Act} {Q : Exit → Act → World → Prop} {Kc : Act → World → Prop} {α : Type}
end
end Kd
end Go.Proofs.YtbjddomocggjmaaGreatW.PrintWords
end
section
namespace Go.Proofs.YtbjddomocggjmaaGreat.PKeyword
open Go.RowKit Go.Proofs.YtbjddomocggjmaaGreatW.PrintWords Go.Proofs.YtbjddomocggjmaaGreatW.PrintLast Go.Proofs.YtbjddomocggjmaaGreatW.PrintMore
set_option linter.unusedVariables false
set_option linter.unusedSimpArgs false
def shape_Keyword.j0 : Nat → ByteArray → Bool → Option (Bool)
 | 0,_,_ => none
 | k + 1,x3,x4 => if x4 = true then (some true) else (if x3.toList = ([79,80,84,73,79,78,65,76] : List UInt8) then (some true) else (if x3.toList = ([68,69,70,65,85,76,84] : List UInt8) then (some true) else (if x3.toList = ([84,82,85,69] : List UInt8) then (some true) else (if x3.toList = ([70,65,76,83,69] : List UInt8) then (some true) else (if x3.toList = ([77,73,78] : List UInt8) then (some true) else (if x3.toList = ([77,65,88] : List UInt8) then (some true) else (if x3.toList = ([69,88,67,69,80,84] : List UInt8) then (some true) else (if x3.toList = ([68,69,70,73,78,73,84,73,79,78,83] : List UInt8) then (some true) else (if x3.toList = ([65,85,84,79,77,65,84,73,67] : List UInt8) then (some true) else (if x3.toList = ([84,65,71,83] : List UInt8) then (some true) else (if x3.toList = ([66,69,71,73,78] : List UInt8) then (some true) else (if x3.toList = ([69,78,68] : List UInt8) then (some true) else (if x3.toList = ([73,77,80,79,82,84,83] : List UInt8) then (some true) else (some false))))))))))))))
def shape_Keyword.f (k : Nat) (a0 : ByteArray) : Option (Bool) := if a0.toList = ([66,79,79,76,69,65,78] : List UInt8) then (shape_Keyword.j0 k a0 (a0.toList == ([66,79,79,76,69,65,78] : List UInt8))) else (if a0.toList = ([73,78,84,69,71,69,82] : List UInt8) then (shape_Keyword.j0 k a0 (a0.toList == ([73,78,84,69,71,69,82] : List UInt8))) else (if a0.toList = ([69,78,85,77,69,82,65,84,69,68] : List UInt8) then (shape_Keyword.j0 k a0 (a0.toList == ([69,78,85,77,69,82,65,84,69,68] : List UInt8))) else (if a0.toList = ([78,85,76,76] : List UInt8) then (shape_Keyword.j0 k a0 (a0.toList == ([78,85,76,76] : List UInt8))) else (if a0.toList = ([66,73,84] : List UInt8) then (shape_Keyword.j0 k a0 (a0.toList == ([66,73,84] : List UInt8))) else (if a0.toList = ([83,84,82,73,78,71] : List UInt8) then (shape_Keyword.j0 k a0 (a0.toList == ([83,84,82,73,78,71] : List UInt8))) else (if a0.toList = ([79,67,84,69,84] : List UInt8) then (shape_Keyword.j0 k a0 (a0.toList == ([79,67,84,69,84] : List UInt8))) else (if a0.toList = ([73,65,53,83,116,114,105,110,103] : List UInt8) then (shape_Keyword.j0 k a0 (a0.toList == ([73,65,53,83,116,114,105,110,103] : List UInt8))) else (if a0.toList = ([83,69,81,85,69,78,67,69] : List UInt8) then (shape_Keyword.j0 k a0 (a0.toList == ([83,69,81,85,69,78,67,69] : List UInt8))) else (if a0.toList = ([79,70] : List UInt8) then (shape_Keyword.j0 k a0 (a0.toList == ([79,70] : List UInt8))) else (if a0.toList = ([67,72,79,73,67,69] : List UInt8) then (shape_Keyword.j0 k a0 (a0.toList == ([67,72,79,73,67,69] : List UInt8))) else (if a0.toList = ([83,73,90,69] : List UInt8) then (shape_Keyword.j0 k a0 (a0.toList == ([83,73,90,69] : List UInt8))) else (shape_Keyword.j0 k a0 (a0.toList == ([70,82,79,77] : List UInt8))))))))))))))
set_option maxHeartbeats 8000000 in
set_option maxRecDepth 100000 in
theorem shape_Keyword.calls (k : Nat) (a0 : ByteArray) (r : Bool) (w : World) (h : shape_Keyword.f k a0 = some r) :
  Calls Tryz.prog 55 #[.string a0] w fun e w' => e = .returned (.bool r) ∧ Drawn0 w w' := by
 have H : (if a0.toList = ([66,79,79,76,69,65,78] : List UInt8) then (shape_Keyword.j0 k a0 (a0.toList == ([66,79,79,76,69,65,78] : List UInt8))) else (if a0.toList = ([73,78,84,69,71,69,82] : List UInt8) then (shape_Keyword.j0 k a0 (a0.toList == ([73,78,84,69,71,69,82] : List UInt8))) else (if a0.toList = ([69,78,85,77,69,82,65,84,69,68] : List UInt8) then (shape_Keyword.j0 k a0 (a0.toList == ([69,78,85,77,69,82,65,84,69,68] : List UInt8))) else (if a0.toList = ([78,85,76,76] : List UInt8) then (shape_Keyword.j0 k a0 (a0.toList == ([78,85,76,76] : List UInt8))) else (if a0.toList = ([66,73,84] : List UInt8) then (shape_Keyword.j0 k a0 (a0.toList == ([66,73,84] : List UInt8))) else (if a0.toList = ([83,84,82,73,78,71] : List UInt8) then (shape_Keyword.j0 k a0 (a0.toList == ([83,84,82,73,78,71] : List UInt8))) else (if a0.toList = ([79,67,84,69,84] : List UInt8) then (shape_Keyword.j0 k a0 (a0.toList == ([79,67,84,69,84] : List UInt8))) else (if a0.toList = ([73,65,53,83,116,114,105,110,103] : List UInt8) then (shape_Keyword.j0 k a0 (a0.toList == ([73,65,53,83,116,114,105,110,103] : List UInt8))) else (if a0.toList = ([83,69,81,85,69,78,67,69] : List UInt8) then (shape_Keyword.j0 k a0 (a0.toList == ([83,69,81,85,69,78,67,69] : List UInt8))) else (if a0.toList = ([79,70] : List UInt8) then (shape_Keyword.j0 k a0 (a0.toList == ([79,70] : List UInt8))) else (if a0.toList = ([67,72,79,73,67,69] : List UInt8) then (shape_Keyword.j0 k a0 (a0.toList == ([67,72,79,73,67,69] : List UInt8))) else (if a0.toList = ([83,73,90,69] : List UInt8) then (shape_Keyword.j0 k a0 (a0.toList == ([83,73,90,69] : List UInt8))) else (shape_Keyword.j0 k a0 (a0.toList == ([70,82,79,77] : List UInt8))))))))))))))) = some r := h
 clear h
 have HC2 := Aside0.mk H
 clear H
 go_enter Tryz.func55,Tryz.ntmps55
 go_upto_if 4 with (fail)
 go_cut [4] (fun v4 wc => ∃ (kq : Nat) (x4_1 : Bool),v4 = .bool x4_1 ∧ Aside0 (shape_Keyword.j0 kq a0 x4_1 = some r) ∧ Aside0 (kq ≤ k) ∧ Drawn0 w wc)
 case first =>
  have H := HC2.out
  clear HC2
  by_cases c3 : a0.toList = ([66,79,79,76,69,65,78] : List UInt8)
  ·rw [if_pos c3] at H
   have c3b0 : (a0.toList == ([66,79,79,76,69,65,78] : List UInt8)) = true := beq_iff_eq.mpr c3
   have c3b1 : (a0.toList != ([66,79,79,76,69,65,78] : List UInt8)) = false := bne_eq_false_iff_eq.mpr c3
   clear c3
   (first | rw [c3b0] | (simp only [i64_w,i32_w]; rw [c3b0]) | skip)
   have H' := Aside0.mk H
   clear H
   go_wp2
   go_meet
   case rel => exact ⟨_,((a0.toList == ([66,79,79,76,69,65,78] : List UInt8))),(by first | rfl | (simp; done) | (simp [*]; done)),H',⟨by first | omega | exact Nat.le_refl _⟩,by repeat (first | exact Drawn0.refl _ | apply Drawn0.step)⟩
  ·rw [if_neg c3] at H
   have c3b0 : (a0.toList == ([66,79,79,76,69,65,78] : List UInt8)) = false := beq_eq_false_iff_ne.mpr c3
   have c3b1 : (a0.toList != ([66,79,79,76,69,65,78] : List UInt8)) = true := bne_iff_ne.mpr c3
   (first | rw [c3b0] | (simp only [i64_w,i32_w]; rw [c3b0]) | skip)
   by_cases c4 : a0.toList = ([73,78,84,69,71,69,82] : List UInt8)
   ·rw [if_pos c4] at H
    have c4b0 : (a0.toList == ([73,78,84,69,71,69,82] : List UInt8)) = true := beq_iff_eq.mpr c4
    have c4b1 : (a0.toList != ([73,78,84,69,71,69,82] : List UInt8)) = false := bne_eq_false_iff_eq.mpr c4
    clear c4
    have H' := Aside0.mk H
    clear H
    go_wp2
    go_meet
    case rel => exact ⟨_,((a0.toList == ([73,78,84,69,71,69,82] : List UInt8))),(by first | rfl | (simp; done) | (simp [*]; done)),H',⟨by first | omega | exact Nat.le_refl _⟩,by repeat (first | exact Drawn0.refl _ | apply Drawn0.step)⟩
   ·rw [if_neg c4] at H
    have c4b0 : (a0.toList == ([73,78,84,69,71,69,82] : List UInt8)) = false := beq_eq_false_iff_ne.mpr c4
    have c4b1 : (a0.toList != ([73,78,84,69,71,69,82] : List UInt8)) = true := bne_iff_ne.mpr c4
    by_cases c5 : a0.toList = ([69,78,85,77,69,82,65,84,69,68] : List UInt8)
    ·rw [if_pos c5] at H
     have c5b0 : (a0.toList == ([69,78,85,77,69,82,65,84,69,68] : List UInt8)) = true := beq_iff_eq.mpr c5
     have c5b1 : (a0.toList != ([69,78,85,77,69,82,65,84,69,68] : List UInt8)) = false := bne_eq_false_iff_eq.mpr c5
     clear c5
     have H' := Aside0.mk H
     clear H
     go_wp2
     go_meet
     case rel => exact ⟨_,((a0.toList == ([69,78,85,77,69,82,65,84,69,68] : List UInt8))),(by first | rfl | (simp; done) | (simp [*]; done)),H',⟨by first | omega | exact Nat.le_refl _⟩,by repeat (first | exact Drawn0.refl _ | apply Drawn0.step)⟩
    ·rw [if_neg c5] at H
     have c5b0 : (a0.toList == ([69,78,85,77,69,82,65,84,69,68] : List UInt8)) = false := beq_eq_false_iff_ne.mpr c5
     have c5b1 : (a0.toList != ([69,78,85,77,69,82,65,84,69,68] : List UInt8)) = true := bne_iff_ne.mpr c5
     by_cases c6 : a0.toList = ([78,85,76,76] : List UInt8)
     ·rw [if_pos c6] at H
      have c6b0 : (a0.toList == ([78,85,76,76] : List UInt8)) = true := beq_iff_eq.mpr c6
      have c6b1 : (a0.toList != ([78,85,76,76] : List UInt8)) = false := bne_eq_false_iff_eq.mpr c6
      clear c6
      have H' := Aside0.mk H
      clear H
      go_wp2
      go_meet
      case rel => exact ⟨_,((a0.toList == ([78,85,76,76] : List UInt8))),(by first | rfl | (simp; done) | (simp [*]; done)),H',⟨by first | omega | exact Nat.le_refl _⟩,by repeat (first | exact Drawn0.refl _ | apply Drawn0.step)⟩
     ·rw [if_neg c6] at H
      have c6b0 : (a0.toList == ([78,85,76,76] : List UInt8)) = false := beq_eq_false_iff_ne.mpr c6
      have c6b1 : (a0.toList != ([78,85,76,76] : List UInt8)) = true := bne_iff_ne.mpr c6
      by_cases c7 : a0.toList = ([66,73,84] : List UInt8)
      ·rw [if_pos c7] at H
       have c7b0 : (a0.toList == ([66,73,84] : List UInt8)) = true := beq_iff_eq.mpr c7
       have c7b1 : (a0.toList != ([66,73,84] : List UInt8)) = false := bne_eq_false_iff_eq.mpr c7
       clear c7
       have H' := Aside0.mk H
       clear H
       go_wp2
       go_meet
       case rel => exact ⟨_,((a0.toList == ([66,73,84] : List UInt8))),(by first | rfl | (simp; done) | (simp [*]; done)),H',⟨by first | omega | exact Nat.le_refl _⟩,by repeat (first | exact Drawn0.refl _ | apply Drawn0.step)⟩
      ·rw [if_neg c7] at H
       have c7b0 : (a0.toList == ([66,73,84] : List UInt8)) = false := beq_eq_false_iff_ne.mpr c7
       have c7b1 : (a0.toList != ([66,73,84] : List UInt8)) = true := bne_iff_ne.mpr c7
       by_cases c8 : a0.toList = ([83,84,82,73,78,71] : List UInt8)
       ·rw [if_pos c8] at H
        have c8b0 : (a0.toList == ([83,84,82,73,78,71] : List UInt8)) = true := beq_iff_eq.mpr c8
        have c8b1 : (a0.toList != ([83,84,82,73,78,71] : List UInt8)) = false := bne_eq_false_iff_eq.mpr c8
        clear c8
        have H' := Aside0.mk H
        clear H
        go_wp2
        go_meet
        case rel => exact ⟨_,((a0.toList == ([83,84,82,73,78,71] : List UInt8))),(by first | rfl | (simp; done) | (simp [*]; done)),H',⟨by first | omega | exact Nat.le_refl _⟩,by repeat (first | exact Drawn0.refl _ | apply Drawn0.step)⟩
       ·rw [if_neg c8] at H
        have c8b0 : (a0.toList == ([83,84,82,73,78,71] : List UInt8)) = false := beq_eq_false_iff_ne.mpr c8
        have c8b1 : (a0.toList != ([83,84,82,73,78,71] : List UInt8)) = true := bne_iff_ne.mpr c8
        by_cases c9 : a0.toList = ([79,67,84,69,84] : List UInt8)
        ·rw [if_pos c9] at H
         have c9b0 : (a0.toList == ([79,67,84,69,84] : List UInt8)) = true := beq_iff_eq.mpr c9
         have c9b1 : (a0.toList != ([79,67,84,69,84] : List UInt8)) = false := bne_eq_false_iff_eq.mpr c9
         clear c9
         have H' := Aside0.mk H
         clear H
         go_wp2
         go_meet
         case rel => exact ⟨_,((a0.toList == ([79,67,84,69,84] : List UInt8))),(by first | rfl | (simp; done) | (simp [*]; done)),H',⟨by first | omega | exact Nat.le_refl _⟩,by repeat (first | exact Drawn0.refl _ | apply Drawn0.step)⟩
        ·rw [if_neg c9] at H
         have c9b0 : (a0.toList == ([79,67,84,69,84] : List UInt8)) = false := beq_eq_false_iff_ne.mpr c9
         have c9b1 : (a0.toList != ([79,67,84,69,84] : List UInt8)) = true := bne_iff_ne.mpr c9
         by_cases c10 : a0.toList = ([73,65,53,83,116,114,105,110,103] : List UInt8)
         ·rw [if_pos c10] at H
          have c10b0 : (a0.toList == ([73,65,53,83,116,114,105,110,103] : List UInt8)) = true := beq_iff_eq.mpr c10
          have c10b1 : (a0.toList != ([73,65,53,83,116,114,105,110,103] : List UInt8)) = false := bne_eq_false_iff_eq.mpr c10
          clear c10
          have H' := Aside0.mk H
          clear H
          go_wp2
          go_meet
          case rel => exact ⟨_,((a0.toList == ([73,65,53,83,116,114,105,110,103] : List UInt8))),(by first | rfl | (simp; done) | (simp [*]; done)),H',⟨by first | omega | exact Nat.le_refl _⟩,by repeat (first | exact Drawn0.refl _ | apply Drawn0.step)⟩
         ·rw [if_neg c10] at H
          have c10b0 : (a0.toList == ([73,65,53,83,116,114,105,110,103] : List UInt8)) = false := beq_eq_false_iff_ne.mpr c10
          have c10b1 : (a0.toList != ([73,65,53,83,116,114,105,110,103] : List UInt8)) = true := bne_iff_ne.mpr c10
          by_cases c11 : a0.toList = ([83,69,81,85,69,78,67,69] : List UInt8)
          ·rw [if_pos c11] at H
           have c11b0 : (a0.toList == ([83,69,81,85,69,78,67,69] : List UInt8)) = true := beq_iff_eq.mpr c11
           have c11b1 : (a0.toList != ([83,69,81,85,69,78,67,69] : List UInt8)) = false := bne_eq_false_iff_eq.mpr c11
           clear c11
           have H' := Aside0.mk H
           clear H
           go_wp2
           go_meet
           case rel => exact ⟨_,((a0.toList == ([83,69,81,85,69,78,67,69] : List UInt8))),(by first | rfl | (simp; done) | (simp [*]; done)),H',⟨by first | omega | exact Nat.le_refl _⟩,by repeat (first | exact Drawn0.refl _ | apply Drawn0.step)⟩
          ·rw [if_neg c11] at H
           have c11b0 : (a0.toList == ([83,69,81,85,69,78,67,69] : List UInt8)) = false := beq_eq_false_iff_ne.mpr c11
           have c11b1 : (a0.toList != ([83,69,81,85,69,78,67,69] : List UInt8)) = true := bne_iff_ne.mpr c11
           by_cases c12 : a0.toList = ([79,70] : List UInt8)
           ·rw [if_pos c12] at H
            have c12b0 : (a0.toList == ([79,70] : List UInt8)) = true := beq_iff_eq.mpr c12
            have c12b1 : (a0.toList != ([79,70] : List UInt8)) = false := bne_eq_false_iff_eq.mpr c12
            clear c12
            have H' := Aside0.mk H
            clear H
            go_wp2
            go_meet
            case rel => exact ⟨_,((a0.toList == ([79,70] : List UInt8))),(by first | rfl | (simp; done) | (simp [*]; done)),H',⟨by first | omega | exact Nat.le_refl _⟩,by repeat (first | exact Drawn0.refl _ | apply Drawn0.step)⟩
           ·rw [if_neg c12] at H
            have c12b0 : (a0.toList == ([79,70] : List UInt8)) = false := beq_eq_false_iff_ne.mpr c12
            have c12b1 : (a0.toList != ([79,70] : List UInt8)) = true := bne_iff_ne.mpr c12
            by_cases c13 : a0.toList = ([67,72,79,73,67,69] : List UInt8)
            ·rw [if_pos c13] at H
             have c13b0 : (a0.toList == ([67,72,79,73,67,69] : List UInt8)) = true := beq_iff_eq.mpr c13
             have c13b1 : (a0.toList != ([67,72,79,73,67,69] : List UInt8)) = false := bne_eq_false_iff_eq.mpr c13
             clear c13
             have H' := Aside0.mk H
             clear H
             go_wp2
             go_meet
             case rel => exact ⟨_,((a0.toList == ([67,72,79,73,67,69] : List UInt8))),(by first | rfl | (simp; done) | (simp [*]; done)),H',⟨by first | omega | exact Nat.le_refl _⟩,by repeat (first | exact Drawn0.refl _ | apply Drawn0.step)⟩
            ·rw [if_neg c13] at H
             have c13b0 : (a0.toList == ([67,72,79,73,67,69] : List UInt8)) = false := beq_eq_false_iff_ne.mpr c13
             have c13b1 : (a0.toList != ([67,72,79,73,67,69] : List UInt8)) = true := bne_iff_ne.mpr c13
             by_cases c14 : a0.toList = ([83,73,90,69] : List UInt8)
             ·rw [if_pos c14] at H
              have c14b0 : (a0.toList == ([83,73,90,69] : List UInt8)) = true := beq_iff_eq.mpr c14
              have c14b1 : (a0.toList != ([83,73,90,69] : List UInt8)) = false := bne_eq_false_iff_eq.mpr c14
              clear c14
              have H' := Aside0.mk H
              clear H
              go_wp2
              go_meet
              case rel => exact ⟨_,((a0.toList == ([83,73,90,69] : List UInt8))),(by first | rfl | (simp; done) | (simp [*]; done)),H',⟨by first | omega | exact Nat.le_refl _⟩,by repeat (first | exact Drawn0.refl _ | apply Drawn0.step)⟩
             ·rw [if_neg c14] at H
              have c14b0 : (a0.toList == ([83,73,90,69] : List UInt8)) = false := beq_eq_false_iff_ne.mpr c14
              have c14b1 : (a0.toList != ([83,73,90,69] : List UInt8)) = true := bne_iff_ne.mpr c14
              have H' := Aside0.mk H
              clear H
              go_wp2
              go_meet
              case rel => exact ⟨_,((a0.toList == ([70,82,79,77] : List UInt8))),(by first | rfl | (simp; done) | (simp [*]; done)),H',⟨by first | omega | exact Nat.le_refl _⟩,by repeat (first | exact Drawn0.refl _ | apply Drawn0.step)⟩
 case rest =>
  clear HC2
  try clear c1
  try clear p2
  try clear c3
  try clear c3b0
  try clear c3b1
  try clear c4
  try clear c4b0
  try clear c4b1
  try clear c5
  try clear c5b0
  try clear c5b1
  try clear c6
  try clear c6b0
  try clear c6b1
  try clear c7
  try clear c7b0
  try clear c7b1
  try clear c8
  try clear c8b0
  try clear c8b1
  try clear c9
  try clear c9b0
  try clear c9b1
  try clear c10
  try clear c10b0
  try clear c10b1
  try clear c11
  try clear c11b0
  try clear c11b1
  try clear c12
  try clear c12b0
  try clear c12b1
  try clear c13
  try clear c13b0
  try clear c13b1
  try clear c14
  try clear c14b0
  try clear c14b1
  obtain ⟨kq,x4_1,rfl,HA,HJ1,⟨mc1,rfl⟩⟩ := hcut
  cases kq with
  | zero => exact absurd HA.out (by simp [shape_Keyword.j0])
  | succ kj1 =>
   have H := HA.out
   clear HA
   simp only [shape_Keyword.j0] at H
   by_cases c15 : x4_1 = true
   ·subst c15
    have H1 : (some true) = some r := by rw [if_pos rfl] at H; exact H
    clear H
    have H := H1
    clear H1
    obtain rfl := Option.some.inj H
    go_wp2
    go_ret
    exact ⟨by first | rfl | (simp; done) | (simp [*]; done),by repeat (first | exact Drawn0.refl _ | apply Drawn0.step)⟩
   ·replace c15 := Bool.eq_false_iff.mpr c15
    subst c15
    have H1 : (if a0.toList = ([79,80,84,73,79,78,65,76] : List UInt8) then (some true) else (if a0.toList = ([68,69,70,65,85,76,84] : List UInt8) then (some true) else (if a0.toList = ([84,82,85,69] : List UInt8) then (some true) else (if a0.toList = ([70,65,76,83,69] : List UInt8) then (some true) else (if a0.toList = ([77,73,78] : List UInt8) then (some true) else (if a0.toList = ([77,65,88] : List UInt8) then (some true) else (if a0.toList = ([69,88,67,69,80,84] : List UInt8) then (some true) else (if a0.toList = ([68,69,70,73,78,73,84,73,79,78,83] : List UInt8) then (some true) else (if a0.toList = ([65,85,84,79,77,65,84,73,67] : List UInt8) then (some true) else (if a0.toList = ([84,65,71,83] : List UInt8) then (some true) else (if a0.toList = ([66,69,71,73,78] : List UInt8) then (some true) else (if a0.toList = ([69,78,68] : List UInt8) then (some true) else (if a0.toList = ([73,77,80,79,82,84,83] : List UInt8) then (some true) else (some false)))))))))))))) = some r := by rw [if_neg (show ¬ (false = true) by decide)] at H; exact H
    clear H
    have H := H1
    clear H1
    by_cases c16 : a0.toList = ([79,80,84,73,79,78,65,76] : List UInt8)
    ·rw [if_pos c16] at H
     have c16b0 : (a0.toList == ([79,80,84,73,79,78,65,76] : List UInt8)) = true := beq_iff_eq.mpr c16
     have c16b1 : (a0.toList != ([79,80,84,73,79,78,65,76] : List UInt8)) = false := bne_eq_false_iff_eq.mpr c16
     clear c16
     obtain rfl := Option.some.inj H
     go_wp2
     go_ret
     exact ⟨by first | rfl | (simp; done) | (simp [*]; done),by repeat (first | exact Drawn0.refl _ | apply Drawn0.step)⟩
    ·rw [if_neg c16] at H
     have c16b0 : (a0.toList == ([79,80,84,73,79,78,65,76] : List UInt8)) = false := beq_eq_false_iff_ne.mpr c16
     have c16b1 : (a0.toList != ([79,80,84,73,79,78,65,76] : List UInt8)) = true := bne_iff_ne.mpr c16
     by_cases c17 : a0.toList = ([68,69,70,65,85,76,84] : List UInt8)
     ·rw [if_pos c17] at H
      have c17b0 : (a0.toList == ([68,69,70,65,85,76,84] : List UInt8)) = true := beq_iff_eq.mpr c17
      have c17b1 : (a0.toList != ([68,69,70,65,85,76,84] : List UInt8)) = false := bne_eq_false_iff_eq.mpr c17
      clear c17
      obtain rfl := Option.some.inj H
      go_wp2
      go_ret
      exact ⟨by first | rfl | (simp; done) | (simp [*]; done),by repeat (first | exact Drawn0.refl _ | apply Drawn0.step)⟩
     ·rw [if_neg c17] at H
      have c17b0 : (a0.toList == ([68,69,70,65,85,76,84] : List UInt8)) = false := beq_eq_false_iff_ne.mpr c17
      have c17b1 : (a0.toList != ([68,69,70,65,85,76,84] : List UInt8)) = true := bne_iff_ne.mpr c17
      by_cases c18 : a0.toList = ([84,82,85,69] : List UInt8)
      ·rw [if_pos c18] at H
       have c18b0 : (a0.toList == ([84,82,85,69] : List UInt8)) = true := beq_iff_eq.mpr c18
       have c18b1 : (a0.toList != ([84,82,85,69] : List UInt8)) = false := bne_eq_false_iff_eq.mpr c18
       clear c18
       obtain rfl := Option.some.inj H
       go_wp2
       go_ret
       exact ⟨by first | rfl | (simp; done) | (simp [*]; done),by repeat (first | exact Drawn0.refl _ | apply Drawn0.step)⟩
      ·rw [if_neg c18] at H
       have c18b0 : (a0.toList == ([84,82,85,69] : List UInt8)) = false := beq_eq_false_iff_ne.mpr c18
       have c18b1 : (a0.toList != ([84,82,85,69] : List UInt8)) = true := bne_iff_ne.mpr c18
       by_cases c19 : a0.toList = ([70,65,76,83,69] : List UInt8)
       ·rw [if_pos c19] at H
        have c19b0 : (a0.toList == ([70,65,76,83,69] : List UInt8)) = true := beq_iff_eq.mpr c19
        have c19b1 : (a0.toList != ([70,65,76,83,69] : List UInt8)) = false := bne_eq_false_iff_eq.mpr c19
        clear c19
        obtain rfl := Option.some.inj H
        go_wp2
        go_ret
        exact ⟨by first | rfl | (simp; done) | (simp [*]; done),by repeat (first | exact Drawn0.refl _ | apply Drawn0.step)⟩
       ·rw [if_neg c19] at H
        have c19b0 : (a0.toList == ([70,65,76,83,69] : List UInt8)) = false := beq_eq_false_iff_ne.mpr c19
        have c19b1 : (a0.toList != ([70,65,76,83,69] : List UInt8)) = true := bne_iff_ne.mpr c19
        by_cases c20 : a0.toList = ([77,73,78] : List UInt8)
        ·rw [if_pos c20] at H
         have c20b0 : (a0.toList == ([77,73,78] : List UInt8)) = true := beq_iff_eq.mpr c20
         have c20b1 : (a0.toList != ([77,73,78] : List UInt8)) = false := bne_eq_false_iff_eq.mpr c20
         clear c20
         obtain rfl := Option.some.inj H
         go_wp2
         go_ret
         exact ⟨by first | rfl | (simp; done) | (simp [*]; done),by repeat (first | exact Drawn0.refl _ | apply Drawn0.step)⟩
        ·rw [if_neg c20] at H
         have c20b0 : (a0.toList == ([77,73,78] : List UInt8)) = false := beq_eq_false_iff_ne.mpr c20
         have c20b1 : (a0.toList != ([77,73,78] : List UInt8)) = true := bne_iff_ne.mpr c20
         by_cases c21 : a0.toList = ([77,65,88] : List UInt8)
         ·rw [if_pos c21] at H
          have c21b0 : (a0.toList == ([77,65,88] : List UInt8)) = true := beq_iff_eq.mpr c21
          have c21b1 : (a0.toList != ([77,65,88] : List UInt8)) = false := bne_eq_false_iff_eq.mpr c21
          clear c21
          obtain rfl := Option.some.inj H
          go_wp2
          go_ret
          exact ⟨by first | rfl | (simp; done) | (simp [*]; done),by repeat (first | exact Drawn0.refl _ | apply Drawn0.step)⟩
         ·rw [if_neg c21] at H
          have c21b0 : (a0.toList == ([77,65,88] : List UInt8)) = false := beq_eq_false_iff_ne.mpr c21
          have c21b1 : (a0.toList != ([77,65,88] : List UInt8)) = true := bne_iff_ne.mpr c21
          by_cases c22 : a0.toList = ([69,88,67,69,80,84] : List UInt8)
          ·rw [if_pos c22] at H
           have c22b0 : (a0.toList == ([69,88,67,69,80,84] : List UInt8)) = true := beq_iff_eq.mpr c22
           have c22b1 : (a0.toList != ([69,88,67,69,80,84] : List UInt8)) = false := bne_eq_false_iff_eq.mpr c22
           clear c22
           obtain rfl := Option.some.inj H
           go_wp2
           go_ret
           exact ⟨by first | rfl | (simp; done) | (simp [*]; done),by repeat (first | exact Drawn0.refl _ | apply Drawn0.step)⟩
          ·rw [if_neg c22] at H
           have c22b0 : (a0.toList == ([69,88,67,69,80,84] : List UInt8)) = false := beq_eq_false_iff_ne.mpr c22
           have c22b1 : (a0.toList != ([69,88,67,69,80,84] : List UInt8)) = true := bne_iff_ne.mpr c22
           by_cases c23 : a0.toList = ([68,69,70,73,78,73,84,73,79,78,83] : List UInt8)
           ·rw [if_pos c23] at H
            have c23b0 : (a0.toList == ([68,69,70,73,78,73,84,73,79,78,83] : List UInt8)) = true := beq_iff_eq.mpr c23
            have c23b1 : (a0.toList != ([68,69,70,73,78,73,84,73,79,78,83] : List UInt8)) = false := bne_eq_false_iff_eq.mpr c23
            clear c23
            obtain rfl := Option.some.inj H
            go_wp2
            go_ret
            exact ⟨by first | rfl | (simp; done) | (simp [*]; done),by repeat (first | exact Drawn0.refl _ | apply Drawn0.step)⟩
           ·rw [if_neg c23] at H
            have c23b0 : (a0.toList == ([68,69,70,73,78,73,84,73,79,78,83] : List UInt8)) = false := beq_eq_false_iff_ne.mpr c23
            have c23b1 : (a0.toList != ([68,69,70,73,78,73,84,73,79,78,83] : List UInt8)) = true := bne_iff_ne.mpr c23
            by_cases c24 : a0.toList = ([65,85,84,79,77,65,84,73,67] : List UInt8)
            ·rw [if_pos c24] at H
             have c24b0 : (a0.toList == ([65,85,84,79,77,65,84,73,67] : List UInt8)) = true := beq_iff_eq.mpr c24
             have c24b1 : (a0.toList != ([65,85,84,79,77,65,84,73,67] : List UInt8)) = false := bne_eq_false_iff_eq.mpr c24
             clear c24
             obtain rfl := Option.some.inj H
             go_wp2
             go_ret
             exact ⟨by first | rfl | (simp; done) | (simp [*]; done),by repeat (first | exact Drawn0.refl _ | apply Drawn0.step)⟩
            ·rw [if_neg c24] at H
             have c24b0 : (a0.toList == ([65,85,84,79,77,65,84,73,67] : List UInt8)) = false := beq_eq_false_iff_ne.mpr c24
             have c24b1 : (a0.toList != ([65,85,84,79,77,65,84,73,67] : List UInt8)) = true := bne_iff_ne.mpr c24
             by_cases c25 : a0.toList = ([84,65,71,83] : List UInt8)
             ·rw [if_pos c25] at H
              have c25b0 : (a0.toList == ([84,65,71,83] : List UInt8)) = true := beq_iff_eq.mpr c25
              have c25b1 : (a0.toList != ([84,65,71,83] : List UInt8)) = false := bne_eq_false_iff_eq.mpr c25
              clear c25
              obtain rfl := Option.some.inj H
              go_wp2
              go_ret
              exact ⟨by first | rfl | (simp; done) | (simp [*]; done),by repeat (first | exact Drawn0.refl _ | apply Drawn0.step)⟩
             ·rw [if_neg c25] at H
              have c25b0 : (a0.toList == ([84,65,71,83] : List UInt8)) = false := beq_eq_false_iff_ne.mpr c25
              have c25b1 : (a0.toList != ([84,65,71,83] : List UInt8)) = true := bne_iff_ne.mpr c25
              by_cases c26 : a0.toList = ([66,69,71,73,78] : List UInt8)
              ·rw [if_pos c26] at H
               have c26b0 : (a0.toList == ([66,69,71,73,78] : List UInt8)) = true := beq_iff_eq.mpr c26
               have c26b1 : (a0.toList != ([66,69,71,73,78] : List UInt8)) = false := bne_eq_false_iff_eq.mpr c26
               clear c26
               obtain rfl := Option.some.inj H
               go_wp2
               go_ret
               exact ⟨by first | rfl | (simp; done) | (simp [*]; done),by repeat (first | exact Drawn0.refl _ | apply Drawn0.step)⟩
              ·rw [if_neg c26] at H
               have c26b0 : (a0.toList == ([66,69,71,73,78] : List UInt8)) = false := beq_eq_false_iff_ne.mpr c26
               have c26b1 : (a0.toList != ([66,69,71,73,78] : List UInt8)) = true := bne_iff_ne.mpr c26
               by_cases c27 : a0.toList = ([69,78,68] : List UInt8)
               ·rw [if_pos c27] at H
                have c27b0 : (a0.toList == ([69,78,68] : List UInt8)) = true := beq_iff_eq.mpr c27
                have c27b1 : (a0.toList != ([69,78,68] : List UInt8)) = false := bne_eq_false_iff_eq.mpr c27
                clear c27
                obtain rfl := Option.some.inj H
                go_wp2
                go_ret
                exact ⟨by first | rfl | (simp; done) | (simp [*]; done),by repeat (first | exact Drawn0.refl _ | apply Drawn0.step)⟩
               ·rw [if_neg c27] at H
                have c27b0 : (a0.toList == ([69,78,68] : List UInt8)) = false := beq_eq_false_iff_ne.mpr c27
                have c27b1 : (a0.toList != ([69,78,68] : List UInt8)) = true := bne_iff_ne.mpr c27
                by_cases c28 : a0.toList = ([73,77,80,79,82,84,83] : List UInt8)
                ·rw [if_pos c28] at H
                 have c28b0 : (a0.toList == ([73,77,80,79,82,84,83] : List UInt8)) = true := beq_iff_eq.mpr c28
                 have c28b1 : (a0.toList != ([73,77,80,79,82,84,83] : List UInt8)) = false := bne_eq_false_iff_eq.mpr c28
                 clear c28
                 obtain rfl := Option.some.inj H
                 go_wp2
                 go_ret
                 exact ⟨by first | rfl | (simp; done) | (simp [*]; done),by repeat (first | exact Drawn0.refl _ | apply Drawn0.step)⟩
                ·rw [if_neg c28] at H
                 have c28b0 : (a0.toList == ([73,77,80,79,82,84,83] : List UInt8)) = false := beq_eq_false_iff_ne.mpr c28
                 have c28b1 : (a0.toList != ([73,77,80,79,82,84,83] : List UInt8)) = true := bne_iff_ne.mpr c28
                 obtain rfl := Option.some.inj H
                 go_wp2
                 go_ret
                 exact ⟨by first | rfl | (simp; done) | (simp [*]; done),by repeat (first | exact Drawn0.refl _ | apply Drawn0.step)⟩
end Go.Proofs.YtbjddomocggjmaaGreat.PKeyword
end
section
namespace Go.Proofs.YtbjddomocggjmaaGreat.PScopeResolves
open Go.RowKit Go.Proofs.YtbjddomocggjmaaGreatW.PrintWords Go.Proofs.YtbjddomocggjmaaGreatW.PrintLast Go.Proofs.YtbjddomocggjmaaGreatW.PrintMore
set_option linter.unusedVariables false
set_option linter.unusedSimpArgs false
structure S33 where
 f0 : Int
 f1 : Int
 f2 : Int
 f3 : Bool
 f4 : Bool
 f5 : (List S33)
def F33 (d : Kd S33) : Kd S33 := Kd.iso (Kd.pair (Kd.int .i64) (Kd.pair (Kd.int .i64) (Kd.pair (Kd.int .i64) (Kd.pair Kd.bool (Kd.pair Kd.bool (Kd.slice 33 d)))))) (fun x : S33 => (x.f0,x.f1,x.f2,x.f3,x.f4,x.f5))
theorem mono33 : Kd.Mono F33 := Kd.mono_iso _ (Kd.mono_pair (Kd.mono_const _) (Kd.mono_pair (Kd.mono_const _) (Kd.mono_pair (Kd.mono_const _) (Kd.mono_pair (Kd.mono_const _) (Kd.mono_pair (Kd.mono_const _) (Kd.mono_slice 33 Kd.mono_id))))))
theorem sub33 : Kd.Sub F33 [33] := Kd.sub_iso _ (Kd.sub_pair (Kd.sub_const _ (by decide)) (Kd.sub_pair (Kd.sub_const _ (by decide)) (Kd.sub_pair (Kd.sub_const _ (by decide)) (Kd.sub_pair (Kd.sub_const _ (by decide)) (Kd.sub_pair (Kd.sub_const _ (by decide)) (Kd.sub_slice 33 (by decide) Kd.sub_id))))))
theorem sz33 : ∀ n,(Kd.upto F33 6 [33] n).sz = 6 := Kd.upto_sz (fun _ => rfl)
def k33 : Kd S33 := Kd.fix F33 6 [33] sz33 (Kd.upto_E sub33)
theorem k33_open {w : World} {x : S33} {cs : List Value} (h : k33.K w x cs) : ∃ A5 c5,cs = [.int .i64 x.f0,.int .i64 x.f1,.int .i64 x.f2,.bool x.f3,.bool x.f4,.slice A5 x.f5.length c5] ∧ x.f5.length ≤ c5 ∧ k33.C w A5 x.f5.length x.f5 := by
 obtain ⟨n,h⟩ := h
 cases n with
 | zero => exact h.elim
 | succ n =>
  obtain ⟨_,_,rfl,rfl,⟨_,_,rfl,rfl,⟨_,_,rfl,rfl,⟨_,_,rfl,rfl,⟨_,_,rfl,rfl,⟨A5,c5,rfl,l5,g5⟩⟩⟩⟩⟩⟩ := h
  exact ⟨A5,c5,rfl,l5,Kd.fix_C g5⟩
theorem k33_mk (w : World) (x : S33) {A5 : Option Addr} {c5 : Nat} (l5 : x.f5.length ≤ c5) (g5 : k33.C w A5 x.f5.length x.f5) : k33.K w x [.int .i64 x.f0,.int .i64 x.f1,.int .i64 x.f2,.bool x.f3,.bool x.f4,.slice A5 x.f5.length c5] := by
 obtain ⟨n5,q5⟩ := Kd.fix_C_back mono33 g5
 have r5 := Kd.upto_C_le mono33 sz33 (show n5 ≤ n5 by omega) q5
 exact ⟨n5 + 1,⟨[.int .i64 x.f0],[.int .i64 x.f1,.int .i64 x.f2,.bool x.f3,.bool x.f4,.slice A5 x.f5.length c5],rfl,rfl,⟨[.int .i64 x.f1],[.int .i64 x.f2,.bool x.f3,.bool x.f4,.slice A5 x.f5.length c5],rfl,rfl,⟨[.int .i64 x.f2],[.bool x.f3,.bool x.f4,.slice A5 x.f5.length c5],rfl,rfl,⟨[.bool x.f3],[.bool x.f4,.slice A5 x.f5.length c5],rfl,rfl,⟨[.bool x.f4],[.slice A5 x.f5.length c5],rfl,rfl,⟨A5,c5,rfl,l5,r5⟩⟩⟩⟩⟩⟩⟩
structure S109 where
 f0 : Int
 f1 : Int
 f2 : ByteArray
 f3 : (List ByteArray)
 f4 : (List S109)
def F109 (d : Kd S109) : Kd S109 := Kd.iso (Kd.pair (Kd.int .i64) (Kd.pair (Kd.int .i64) (Kd.pair Kd.string (Kd.pair (Kd.slice 9 Kd.string) (Kd.slice 109 d))))) (fun x : S109 => (x.f0,x.f1,x.f2,x.f3,x.f4))
theorem mono109 : Kd.Mono F109 := Kd.mono_iso _ (Kd.mono_pair (Kd.mono_const _) (Kd.mono_pair (Kd.mono_const _) (Kd.mono_pair (Kd.mono_const _) (Kd.mono_pair (Kd.mono_const _) (Kd.mono_slice 109 Kd.mono_id)))))
theorem sub109 : Kd.Sub F109 [9,109] := Kd.sub_iso _ (Kd.sub_pair (Kd.sub_const _ (by decide)) (Kd.sub_pair (Kd.sub_const _ (by decide)) (Kd.sub_pair (Kd.sub_const _ (by decide)) (Kd.sub_pair (Kd.sub_const _ (by decide)) (Kd.sub_slice 109 (by decide) Kd.sub_id)))))
theorem sz109 : ∀ n,(Kd.upto F109 5 [9,109] n).sz = 5 := Kd.upto_sz (fun _ => rfl)
def k109 : Kd S109 := Kd.fix F109 5 [9,109] sz109 (Kd.upto_E sub109)
theorem k109_open {w : World} {x : S109} {cs : List Value} (h : k109.K w x cs) : ∃ A3 c3 A4 c4,cs = [.int .i64 x.f0,.int .i64 x.f1,.string x.f2,.slice A3 x.f3.length c3,.slice A4 x.f4.length c4] ∧ x.f3.length ≤ c3 ∧ Kd.string.C w A3 x.f3.length x.f3 ∧ x.f4.length ≤ c4 ∧ k109.C w A4 x.f4.length x.f4 := by
 obtain ⟨n,h⟩ := h
 cases n with
 | zero => exact h.elim
 | succ n =>
  obtain ⟨_,_,rfl,rfl,⟨_,_,rfl,rfl,⟨_,_,rfl,rfl,⟨_,_,rfl,⟨A3,c3,rfl,l3,g3⟩,⟨A4,c4,rfl,l4,g4⟩⟩⟩⟩⟩ := h
  exact ⟨A3,c3,A4,c4,rfl,l3,g3,l4,Kd.fix_C g4⟩
theorem k109_mk (w : World) (x : S109) {A3 : Option Addr} {c3 : Nat} (l3 : x.f3.length ≤ c3) (g3 : Kd.string.C w A3 x.f3.length x.f3) {A4 : Option Addr} {c4 : Nat} (l4 : x.f4.length ≤ c4) (g4 : k109.C w A4 x.f4.length x.f4) : k109.K w x [.int .i64 x.f0,.int .i64 x.f1,.string x.f2,.slice A3 x.f3.length c3,.slice A4 x.f4.length c4] := by
 obtain ⟨n4,q4⟩ := Kd.fix_C_back mono109 g4
 have r4 := Kd.upto_C_le mono109 sz109 (show n4 ≤ n4 by omega) q4
 exact ⟨n4 + 1,⟨[.int .i64 x.f0],[.int .i64 x.f1,.string x.f2,.slice A3 x.f3.length c3,.slice A4 x.f4.length c4],rfl,rfl,⟨[.int .i64 x.f1],[.string x.f2,.slice A3 x.f3.length c3,.slice A4 x.f4.length c4],rfl,rfl,⟨[.string x.f2],[.slice A3 x.f3.length c3,.slice A4 x.f4.length c4],rfl,rfl,⟨[.slice A3 x.f3.length c3],[.slice A4 x.f4.length c4],rfl,⟨A3,c3,rfl,l3,g3⟩,⟨A4,c4,rfl,l4,r4⟩⟩⟩⟩⟩⟩
structure S50 where
 f0 : (List ByteArray)
 f1 : ByteArray
def k50 : Kd S50 := Kd.iso (Kd.pair (Kd.slice 9 Kd.string) Kd.string) (fun x : S50 => (x.f0,x.f1))
theorem k50_open {w : World} {x : S50} {cs : List Value} (h : k50.K w x cs) : ∃ A0 c0,cs = [.slice A0 x.f0.length c0,.string x.f1] ∧ x.f0.length ≤ c0 ∧ Kd.string.C w A0 x.f0.length x.f0 := by
 obtain ⟨_,_,rfl,⟨A0,c0,rfl,l0,g0⟩,rfl⟩ := h
 exact ⟨A0,c0,rfl,l0,g0⟩
theorem k50_mk (w : World) (x : S50) {A0 : Option Addr} {c0 : Nat} (l0 : x.f0.length ≤ c0) (g0 : Kd.string.C w A0 x.f0.length x.f0) : k50.K w x [.slice A0 x.f0.length c0,.string x.f1] := ⟨[.slice A0 x.f0.length c0],[.string x.f1],rfl,⟨A0,c0,rfl,l0,g0⟩,rfl⟩
end Go.Proofs.YtbjddomocggjmaaGreat.PScopeResolves
end
section
namespace Go.Proofs.YtbjddomocggjmaaGreat.Pprintable
open Go.RowKit Go.Proofs.YtbjddomocggjmaaGreatW.PrintWords Go.Proofs.YtbjddomocggjmaaGreatW.PrintLast Go.Proofs.YtbjddomocggjmaaGreatW.PrintMore
set_option linter.unusedVariables false
set_option linter.unusedSimpArgs false
def shape_printable.l0 : Nat → ByteArray → Int → Int → Option (Bool)
 | 0,_,_,_ => none
 | k + 1,x0,x5,x6 => if x6 < x5 then (if 0 ≤ x6 then (if x6 < (x0.size : Int) then (if (bt x0 x6) < 32 then (some false) else (if (bt x0 x6) > 126 then (some false) else (shape_printable.l0 k x0 x5 (wrap64 (x6 + 1))))) else (none)) else (none)) else (some true)
def shape_printable.f (k : Nat) (a0 : ByteArray) : Option (Bool) := shape_printable.l0 k a0 (a0.size : Int) 0
set_option maxHeartbeats 8000000 in
set_option maxRecDepth 100000 in
theorem shape_printable.calls (k : Nat) (a0 : ByteArray) (r : Bool) (w : World) (h : shape_printable.f k a0 = some r) :
  Calls Tryz.prog 76 #[.string a0] w fun e w' => e = .returned (.bool r) ∧ Drawn0 w w' := by
 have H : (shape_printable.l0 k a0 (a0.size : Int) 0) = some r := h
 clear h
 have H' := Aside0.mk H
 clear H
 go_enter Tryz.func76,Tryz.ntmps76
 go_wp2
 go_loopg [6] k (fun kq v6 w' => ∃ (x6_1 : Int),v6 = .int .i64 x6_1 ∧ Aside0 (shape_printable.l0 kq a0 (a0.size : Int) x6_1 = some r) ∧ Aside0 (kq ≤ k) ∧ Drawn0 w w')
 case atStart => exact ⟨(0),(by first | rfl | (simp; done) | (simp [*]; done)),H',⟨Nat.le_refl _⟩,by repeat (first | exact Drawn0.refl _ | apply Drawn0.step)⟩
 case round =>
  clear H'
  obtain ⟨x6_1,rfl,HA,HK1,⟨m1,rfl⟩⟩ := hrel
  cases gk with
  | zero => exact absurd HA.out (by simp [shape_printable.l0])
  | succ k1 =>
   have H := HA.out
   clear HA
   simp only [shape_printable.l0] at H
   by_cases c2 : x6_1 < (a0.size : Int)
   ·rw [if_pos c2] at H
    have c2b0 : decide (x6_1 < (a0.size : Int)) = true := decide_eq_true c2
    clear c2
    by_cases c3 : 0 ≤ x6_1
    ·rw [if_pos c3] at H
     have c3b0 : decide (0 ≤ x6_1) = true := decide_eq_true c3
     clear c3
     by_cases c4 : x6_1 < (a0.size : Int)
     ·rw [if_pos c4] at H
      have c4b0 : decide (x6_1 < (a0.size : Int)) = true := decide_eq_true c4
      clear c4
      by_cases c6 : (bt a0 x6_1) < 32
      ·rw [if_pos c6] at H
       have c6b0 : decide ((bt a0 x6_1) < 32) = true := decide_eq_true c6
       clear c6
       obtain rfl := Option.some.inj H
       have p5 : 0 ≤ (x6_1 : Int) := of_decide_eq_true (by first | (with_reducible assumption) | assumption)
       have q5 : x6_1 < (a0.size : Int) := of_decide_eq_true (by first | (with_reducible assumption) | assumption)
       have hx5 := bt_at a0 x6_1
       replace p5 := eq_true p5
       replace q5 := eq_true q5
       go_wp2
       go_ret
       exact ⟨by first | rfl | (simp; done) | (simp [*]; done),by repeat (first | exact Drawn0.refl _ | apply Drawn0.step)⟩
      ·rw [if_neg c6] at H
       have c6b0 : decide ((bt a0 x6_1) < 32) = false := decide_eq_false c6
       clear c6
       by_cases c8 : (bt a0 x6_1) > 126
       ·rw [if_pos c8] at H
        have c8b0 : decide (126 < (bt a0 x6_1)) = true := decide_eq_true c8
        clear c8
        obtain rfl := Option.some.inj H
        have p5 : 0 ≤ (x6_1 : Int) := of_decide_eq_true (by first | (with_reducible assumption) | assumption)
        have q5 : x6_1 < (a0.size : Int) := of_decide_eq_true (by first | (with_reducible assumption) | assumption)
        have hx5 := bt_at a0 x6_1
        replace p5 := eq_true p5
        replace q5 := eq_true q5
        have p7 : 0 ≤ (x6_1 : Int) := of_decide_eq_true (by first | (with_reducible assumption) | assumption)
        have q7 : x6_1 < (a0.size : Int) := of_decide_eq_true (by first | (with_reducible assumption) | assumption)
        have hx7 := bt_at a0 x6_1
        replace p7 := eq_true p7
        replace q7 := eq_true q7
        go_wp2
        go_ret
        exact ⟨by first | rfl | (simp; done) | (simp [*]; done),by repeat (first | exact Drawn0.refl _ | apply Drawn0.step)⟩
       ·rw [if_neg c8] at H
        have c8b0 : decide (126 < (bt a0 x6_1)) = false := decide_eq_false c8
        clear c8
        have H' := Aside0.mk H
        clear H
        have p5 : 0 ≤ (x6_1 : Int) := of_decide_eq_true (by first | (with_reducible assumption) | assumption)
        have q5 : x6_1 < (a0.size : Int) := of_decide_eq_true (by first | (with_reducible assumption) | assumption)
        have hx5 := bt_at a0 x6_1
        replace p5 := eq_true p5
        replace q5 := eq_true q5
        have p7 : 0 ≤ (x6_1 : Int) := of_decide_eq_true (by first | (with_reducible assumption) | assumption)
        have q7 : x6_1 < (a0.size : Int) := of_decide_eq_true (by first | (with_reducible assumption) | assumption)
        have hx7 := bt_at a0 x6_1
        replace p7 := eq_true p7
        replace q7 := eq_true q7
        go_wp2
        go_roundg k1
        case measure => have := HK1.out; omega
        case rel => exact ⟨(wrap64 (x6_1 + 1)),(by first | rfl | (simp; done) | (simp [*]; done)),H',⟨by have := HK1.out; omega⟩,by repeat (first | exact Drawn0.refl _ | apply Drawn0.step)⟩
     ·rw [if_neg c4] at H
      exact absurd H (by simp)
    ·rw [if_neg c3] at H
     exact absurd H (by simp)
   ·rw [if_neg c2] at H
    have c2b0 : decide (x6_1 < (a0.size : Int)) = false := decide_eq_false c2
    clear c2
    obtain rfl := Option.some.inj H
    go_wp2
    go_ret
    exact ⟨by first | rfl | (simp; done) | (simp [*]; done),by repeat (first | exact Drawn0.refl _ | apply Drawn0.step)⟩
end Go.Proofs.YtbjddomocggjmaaGreat.Pprintable
end
section
namespace Go.Proofs.YtbjddomocggjmaaGreat.Prises
open Go.RowKit Go.Proofs.YtbjddomocggjmaaGreatW.PrintWords Go.Proofs.YtbjddomocggjmaaGreatW.PrintLast Go.Proofs.YtbjddomocggjmaaGreatW.PrintMore
set_option linter.unusedVariables false
set_option linter.unusedSimpArgs false
def shape_rises.l0 : Nat → ByteArray → Int → Option (Bool)
 | 0,_,_ => none
 | k + 1,x0,x3 => if x3 < (x0.size : Int) then (if 0 ≤ (wrap64 (x3 - 1)) then (if (wrap64 (x3 - 1)) < (x0.size : Int) then (if 0 ≤ x3 then (if (bt x0 (wrap64 (x3 - 1))) ≥ (bt x0 x3) then (some false) else (shape_rises.l0 k x0 (wrap64 (x3 + 1)))) else (none)) else (none)) else (none)) else (some true)
def shape_rises.f (k : Nat) (a0 : ByteArray) : Option (Bool) := shape_rises.l0 k a0 1
set_option maxHeartbeats 8000000 in
set_option maxRecDepth 100000 in
theorem shape_rises.calls (k : Nat) (a0 : ByteArray) (r : Bool) (w : World) (h : shape_rises.f k a0 = some r) :
  Calls Tryz.prog 77 #[.string a0] w fun e w' => e = .returned (.bool r) ∧ Drawn0 w w' := by
 have H : (shape_rises.l0 k a0 1) = some r := h
 clear h
 have H' := Aside0.mk H
 clear H
 go_enter Tryz.func77,Tryz.ntmps77
 go_wp2
 repeat (go_quiet (fail); try go_wp2)
 go_loopg [3] k (fun kq v3 w' => ∃ (x3_1 : Int),v3 = .int .i64 x3_1 ∧ Aside0 (shape_rises.l0 kq a0 x3_1 = some r) ∧ Aside0 (kq ≤ k) ∧ Drawn0 w w')
 case atStart => exact ⟨(1),(by first | rfl | (simp; done) | (simp [*]; done)),H',⟨Nat.le_refl _⟩,by repeat (first | exact Drawn0.refl _ | apply Drawn0.step)⟩
 case round =>
  clear H'
  obtain ⟨x3_1,rfl,HA,HK1,⟨m1,rfl⟩⟩ := hrel
  cases gk with
  | zero => exact absurd HA.out (by simp [shape_rises.l0])
  | succ k1 =>
   have H := HA.out
   clear HA
   simp only [shape_rises.l0] at H
   by_cases c2 : x3_1 < (a0.size : Int)
   ·rw [if_pos c2] at H
    have c2b0 : decide (x3_1 < (a0.size : Int)) = true := decide_eq_true c2
    clear c2
    obtain ⟨ji3,hji3⟩ : ∃ j_ : Int,(wrap64 (x3_1 - 1)) = j_ := ⟨_,rfl⟩
    replace H : (if 0 ≤ (ji3) then (if (ji3) < (a0.size : Int) then (if 0 ≤ x3_1 then (if (bt a0 (ji3)) ≥ (bt a0 x3_1) then (some false) else (shape_rises.l0 k1 a0 (wrap64 (x3_1 + 1)))) else (none)) else (none)) else (none)) = some r := by first | (rw [hji3] at H; exact H) | (simp only [hji3] at H ⊢; exact H)
    have hji3w : (IntKind.i64.wrap (x3_1 - 1)) = ji3 := (i64_w _).trans hji3
    by_cases c4 : 0 ≤ (ji3)
    ·rw [if_pos c4] at H
     have c4b0 : decide (0 ≤ (ji3)) = true := decide_eq_true c4
     clear c4
     by_cases c5 : (ji3) < (a0.size : Int)
     ·rw [if_pos c5] at H
      have c5b0 : decide ((ji3) < (a0.size : Int)) = true := decide_eq_true c5
      clear c5
      by_cases c7 : 0 ≤ x3_1
      ·rw [if_pos c7] at H
       have c7b0 : decide (0 ≤ x3_1) = true := decide_eq_true c7
       clear c7
       by_cases c9 : (bt a0 (ji3)) ≥ (bt a0 x3_1)
       ·rw [if_pos c9] at H
        have c9b0 : decide ((bt a0 x3_1) ≤ (bt a0 (ji3))) = true := decide_eq_true c9
        clear c9
        obtain rfl := Option.some.inj H
        have p6 : 0 ≤ ((ji3) : Int) := of_decide_eq_true (by first | (with_reducible assumption) | assumption)
        have q6 : (ji3) < (a0.size : Int) := of_decide_eq_true (by first | (with_reducible assumption) | assumption)
        have hx6 := bt_at a0 (ji3)
        replace p6 := eq_true p6
        replace q6 := eq_true q6
        have p8 : 0 ≤ (x3_1 : Int) := of_decide_eq_true (by first | (with_reducible assumption) | assumption)
        have q8 : x3_1 < (a0.size : Int) := of_decide_eq_true (by first | (with_reducible assumption) | assumption)
        have hx8 := bt_at a0 x3_1
        replace p8 := eq_true p8
        replace q8 := eq_true q8
        go_wp2
        repeat (go_quiet (fail); try go_wp2)
        go_ret
        exact ⟨by first | rfl | (simp; done) | (simp only [← hji3] <;> (first | rfl | simp)) | (simp [*]; done),by repeat (first | exact Drawn0.refl _ | apply Drawn0.step)⟩
       ·rw [if_neg c9] at H
        have c9b0 : decide ((bt a0 x3_1) ≤ (bt a0 (ji3))) = false := decide_eq_false c9
        clear c9
        have H' := Aside0.mk H
        clear H
        have p6 : 0 ≤ ((ji3) : Int) := of_decide_eq_true (by first | (with_reducible assumption) | assumption)
        have q6 : (ji3) < (a0.size : Int) := of_decide_eq_true (by first | (with_reducible assumption) | assumption)
        have hx6 := bt_at a0 (ji3)
        replace p6 := eq_true p6
        replace q6 := eq_true q6
        have p8 : 0 ≤ (x3_1 : Int) := of_decide_eq_true (by first | (with_reducible assumption) | assumption)
        have q8 : x3_1 < (a0.size : Int) := of_decide_eq_true (by first | (with_reducible assumption) | assumption)
        have hx8 := bt_at a0 x3_1
        replace p8 := eq_true p8
        replace q8 := eq_true q8
        go_wp2
        repeat (go_quiet (fail); try go_wp2)
        go_roundg k1
        case measure => have := HK1.out; omega
        case rel => exact ⟨(wrap64 (x3_1 + 1)),(by first | rfl | (simp; done) | (simp [*]; done)),H',⟨by have := HK1.out; omega⟩,by repeat (first | exact Drawn0.refl _ | apply Drawn0.step)⟩
      ·rw [if_neg c7] at H
       exact absurd H (by simp)
     ·rw [if_neg c5] at H
      exact absurd H (by simp)
    ·rw [if_neg c4] at H
     exact absurd H (by simp)
   ·rw [if_neg c2] at H
    have c2b0 : decide (x3_1 < (a0.size : Int)) = false := decide_eq_false c2
    clear c2
    obtain rfl := Option.some.inj H
    go_wp2
    repeat (go_quiet (fail); try go_wp2)
    go_ret
    exact ⟨by first | rfl | (simp; done) | (simp [*]; done),by repeat (first | exact Drawn0.refl _ | apply Drawn0.step)⟩
end Go.Proofs.YtbjddomocggjmaaGreat.Prises
end
