/- Separation words for the walks: what a call owns, in pieces that do not overlap, and what each step makes of them. -/
import Derived.WalkKit
import Derived.Below
import Derived.Deep.Draws
import Derived.Deep.AppendLies
import Derived.Lib.ConvBytes
import Derived.Laws.BytesArg
import Derived.Lib.Hide
namespace Go.Proofs.YtbjddomocggjmaaGreat.Sep
open Go.RowKit
structure HP where
 on : World → (Nat → Prop) → Prop
 loc : ∀ {w w' : World} {F : Nat → Prop},on w F → (∀ b,F b → w'.heap[b]? = w.heap[b]?) → on w' F
 up : ∀ {w : World} {F G : Nat → Prop},on w F → (∀ b,F b → G b) → on w G
def emp : HP := ⟨fun _ _ => True,fun h _ => h,fun h _ => h⟩
def sep (A C : HP) : HP where
 on w F := ∃ F1 F2 : Nat → Prop,(∀ b,F1 b → F b) ∧ (∀ b,F2 b → F b) ∧ (∀ b,F1 b → F2 b → False) ∧ A.on w F1 ∧ C.on w F2
 loc := by
  rintro w w' F ⟨F1,F2,h1,h2,hd,ha,hc⟩ h
  exact ⟨F1,F2,h1,h2,hd,A.loc ha fun b hb => h b (h1 b hb),C.loc hc fun b hb => h b (h2 b hb)⟩
 up := by
  rintro w F G ⟨F1,F2,h1,h2,hd,ha,hc⟩ h
  exact ⟨F1,F2,fun b hb => h b (h1 b hb),fun b hb => h b (h2 b hb),hd,ha,hc⟩
instance : HSMul HP HP HP := ⟨sep⟩
structure St (B : Nat) (w0 w : World) (A : HP) : Prop where
 below : Below B w0 w
 size : B ≤ w.heap.size
 own : ∃ F : Nat → Prop,(∀ b,F b → B ≤ b ∧ b < w.heap.size) ∧ A.on w F
section
variable {B : Nat} {w0 w : World} {A C D R : HP}
theorem St.start (w : World) : St w.heap.size w w emp := ⟨Below.refl _ _,Nat.le_refl _,fun _ => False,fun _ h => h.elim,trivial⟩
theorem St.imp (h : St B w0 w A) (hi : ∀ w F,A.on w F → C.on w F) : St B w0 w C := by
 obtain ⟨h1,h2,F,h3,h4⟩ := h
 exact ⟨h1,h2,F,h3,hi _ _ h4⟩
theorem sep_swap {w : World} {F : Nat → Prop} (h : (A • C).on w F) : (C • A).on w F := by
 obtain ⟨F1,F2,h1,h2,hd,ha,hc⟩ := h
 exact ⟨F2,F1,h2,h1,fun b x y => hd b y x,hc,ha⟩
theorem sep_left {w : World} {F : Nat → Prop} (h : (A • C • R).on w F) : (C • A • R).on w F := by
 obtain ⟨F1,F2,h1,h2,hd,ha,G1,G2,g1,g2,gd,gc,gr⟩ := h
 refine ⟨G1,fun b => F1 b ∨ G2 b,fun b hb => h2 b (g1 b hb),fun b hb => hb.elim (h1 b) fun hb => h2 b (g2 b hb),fun b x y => ?_,gc,F1,G2,fun b hb => .inl hb,fun b hb => .inr hb,fun b x y => hd b x (g2 b y),ha,gr⟩
 rcases y with y | y
 ·exact hd b y (g1 b x)
 ·exact gd b x y
theorem St.two (h : St B w0 w (A • C • R)) : St B w0 w (C • A • R) := h.imp fun _ _ => sep_left
theorem St.three (h : St B w0 w (A • C • D • R)) : St B w0 w (D • A • C • R) := by
 refine h.imp fun w F hh => ?_
 obtain ⟨F1,F2,h1,h2,hd,ha,hr⟩ := hh
 exact sep_left ⟨F1,F2,h1,h2,hd,ha,sep_left hr⟩
theorem St.back3 (h : St B w0 w (D • A • C • R)) : St B w0 w (A • C • D • R) := by
 refine h.imp fun w F hh => ?_
 obtain ⟨F1,F2,h1,h2,hd,ha,hr⟩ := sep_left hh
 exact ⟨F1,F2,h1,h2,hd,ha,sep_left hr⟩
theorem St.swap (h : St B w0 w (A • C)) : St B w0 w (C • A) := h.imp fun _ _ => sep_swap
theorem St.drop (h : St B w0 w (A • R)) : St B w0 w R := by
 refine h.imp fun w F hh => ?_
 obtain ⟨F1,F2,h1,h2,hd,ha,hr⟩ := hh
 exact R.up hr h2
theorem St.drop2 (h : St B w0 w (A • C • R)) : St B w0 w (A • R) := h.two.drop
theorem St.pad (h : St B w0 w A) : St B w0 w (A • emp) := by
 refine h.imp fun w F hh => ⟨F,fun _ => False,fun _ h => h,fun _ h => h.elim,fun _ _ h => h.elim,hh,trivial⟩
theorem St.mapFirst (h : St B w0 w (A • R)) (hi : ∀ w F,A.on w F → C.on w F) : St B w0 w (C • R) := by
 refine h.imp fun w F hh => ?_
 obtain ⟨F1,F2,h1,h2,hd,ha,hr⟩ := hh
 exact ⟨F1,F2,h1,h2,hd,hi _ _ ha,hr⟩
theorem sep_assoc {w : World} {F : Nat → Prop} (h : ((A • C) • R).on w F) : (A • C • R).on w F := by
 obtain ⟨F1,F2,h1,h2,hd,⟨G1,G2,g1,g2,gd,ga,gc⟩,hr⟩ := h
 exact ⟨G1,fun b => G2 b ∨ F2 b,fun b hb => h1 b (g1 b hb),fun b hb => hb.elim (fun hb => h1 b (g2 b hb)) (h2 b),fun b x y => y.elim (gd b x) (hd b (g1 b x)),ga,
  G2,F2,fun b hb => .inl hb,fun b hb => .inr hb,fun b x y => hd b (g2 b x) y,gc,hr⟩
theorem sep_assoc' {w : World} {F : Nat → Prop} (h : (A • C • R).on w F) : ((A • C) • R).on w F := by
 obtain ⟨F1,F2,h1,h2,hd,ha,G1,G2,g1,g2,gd,gc,gr⟩ := h
 exact ⟨fun b => F1 b ∨ G1 b,G2,fun b hb => hb.elim (h1 b) fun hb => h2 b (g1 b hb),fun b hb => h2 b (g2 b hb),fun b x y => x.elim (fun x => hd b x (g2 b y)) (fun x => gd b x y),
  ⟨F1,G1,fun b hb => .inl hb,fun b hb => .inr hb,fun b x y => hd b x (g1 b y),ha,gc⟩,gr⟩
theorem St.assoc (h : St B w0 w ((A • C) • R)) : St B w0 w (A • C • R) := h.imp fun _ _ => sep_assoc
theorem St.assoc' (h : St B w0 w (A • C • R)) : St B w0 w ((A • C) • R) := h.imp fun _ _ => sep_assoc'
theorem St.same {w' : World} (h : St B w0 w A) (h1 : w'.heap = w.heap) (h2 : w'.os = w.os) (h3 : w'.tape = w.tape) (h4 : w'.output = w.output) : St B w0 w' A := by
 obtain ⟨hb,hs,F,hF,hA⟩ := h
 exact ⟨⟨h2.trans hb.os,h3.trans hb.tape,h4.trans hb.output,by rw [h1]; exact hb.size,fun k hk => by rw [h1]; exact hb.block k hk⟩,by rw [h1]; exact hs,F,by rw [h1]; exact hF,A.loc hA fun b _ => by rw [h1]⟩
theorem St.drew (h : St B w0 w A) : St B w0 w.drew A := h.same rfl rfl rfl rfl
theorem St.drewN (h : St B w0 w A) (n : Nat) : St B w0 (w.drewN n) A := h.same rfl rfl rfl rfl
end
def Blk (b : Nat) (o : Obj) : HP where
 on w F := F b ∧ w.heap[b]? = some o
 loc := fun ⟨h1,h2⟩ h => ⟨h1,(h _ h1).trans h2⟩
 up := fun ⟨h1,h2⟩ h => ⟨h _ h1,h2⟩
section
variable {B : Nat} {w0 w : World} {A C D R : HP}
theorem St.step {w' : World} (h : St B w0 w (A • R))
  (hs : w.heap.size ≤ w'.heap.size) (ho : w'.os = w.os) (ht : w'.tape = w.tape) (hp : w'.output = w.output)
  (hstep : ∀ F : Nat → Prop,(∀ b,F b → B ≤ b ∧ b < w.heap.size) → A.on w F →
   (∀ b,b < w.heap.size → ¬ F b → w'.heap[b]? = w.heap[b]?) ∧ ∃ G : Nat → Prop,(∀ b,G b → F b ∨ (w.heap.size ≤ b ∧ b < w'.heap.size)) ∧ C.on w' G) : St B w0 w' (C • R) := by
 obtain ⟨hb,hsz,F,hF,F1,F2,h1,h2,hd,ha,hr⟩ := h
 obtain ⟨hk,G,hG,hc⟩ := hstep F1 (fun b hb => hF b (h1 b hb)) ha
 refine ⟨hb.trans ⟨ho,ht,hp,hs,fun k hk' => hk k (by omega) fun hf => by have := (hF k (h1 k hf)).1; omega⟩,Nat.le_trans hsz hs,fun b => G b ∨ F2 b, ?_,G,F2,fun b hb => .inl hb,fun b hb => .inr hb, ?_,hc, ?_⟩
 ·rintro b (hg | hf)
  ·rcases hG b hg with hf | ⟨h3,h4⟩
   ·have := hF b (h1 b hf); omega
   ·omega
  ·have := hF b (h2 b hf); omega
 ·intro b hg hf
  rcases hG b hg with hf1 | ⟨h3,h4⟩
  ·exact hd b hf1 hf
  ·have := hF b (h2 b hf); omega
 ·exact R.loc hr fun b hf => hk b (hF b (h2 b hf)).2 fun h => hd b h hf
theorem St.alloc (h : St B w0 w R) (o : Obj) : St B w0 (w.alloc o) (Blk w.heap.size o • R) := by
 have h' : St B w0 w (emp • R) := h.pad.swap
 refine h'.step (by simp) rfl rfl rfl fun F hF _ => ⟨fun b hb _ => Below.heap_alloc _ _ _ hb,fun b => b = w.heap.size, ?_,rfl, ?_⟩
 ·rintro b rfl; exact .inr ⟨Nat.le_refl _,by simp⟩
 ·exact heap_alloc_new w o
theorem St.block {b : Nat} {o : Obj} (h : St B w0 w (Blk b o • R)) : w.heap[b]? = some o := by
 obtain ⟨_,_,F,hF,F1,F2,h1,h2,hd,⟨_,ha⟩,hr⟩ := h
 exact ha
theorem heap_setCell_self {w : World} {b i : Nat} {cs : Array Value} {e : TypeId} {fr : Nat × Nat} (h : w.heap[b]? = some (.cells cs e fr)) (v : Value) :
  (w.setCell ⟨b,i,none⟩ v).heap[b]? = some (.cells (cs.setIfInBounds i v) e fr) := by
 have hlt := lt_of_block h
 have h' : w.heap[b] = .cells cs e fr := by simpa [Array.getElem?_eq_getElem hlt] using h
 show (w.heap.modify b _)[b]? = _
 rw [Array.getElem?_eq_getElem (by simpa using hlt),Array.getElem_modify_self,h']
 rfl
theorem St.set {b : Nat} {cs : Array Value} {e : TypeId} {fr : Nat × Nat} (h : St B w0 w (Blk b (.cells cs e fr) • R)) (i : Nat) (v : Value) :
  St B w0 (w.setCell ⟨b,i,none⟩ v) (Blk b (.cells (cs.setIfInBounds i v) e fr) • R) := by
 refine h.step (by simp [World.setCell]) rfl rfl rfl fun F hF ⟨hf,hb⟩ => ⟨fun k hk hn => Below.heap_setCell _ _ _ _ fun e => hn (by subst e; exact hf),F,fun b hb => .inl hb,hf,heap_setCell_self hb v⟩
theorem St.cell {b : Nat} {cs : Array Value} {e : TypeId} {fr : Nat × Nat} (h : St B w0 w (Blk b (.cells cs e fr) • R)) (i : Nat) {v : Value} (hv : cs[i]? = some v) : w.cell? ⟨b,i,none⟩ = some v := by
 simp [World.cell?,h.block,hv]
theorem St.free {b : Nat} {cs : Array Value} {e : TypeId} {lo hi : Nat} (h : St B w0 w (Blk b (.cells cs e (lo,hi)) • R)) (i : Nat) (hi' : i < lo ∨ hi ≤ lo) : w.frozen? ⟨b,i,none⟩ = false := by
 simp [World.frozen?,h.block]; omega
end
def RowOn (e : TypeId) (size : Nat) (v : Value) (n : Nat) (xs : List Value) (w : World) (F : Nat → Prop) : Prop :=
 xs.length = n * size ∧
 ((v = .slice none 0 0 ∧ n = 0) ∨
  ∃ g cap cur lo hi,v = .slice (some ⟨g,0,none⟩) n cap ∧ F g ∧ w.heap[g]? = some (.cells cur e (lo,hi)) ∧ (cur.size ≤ lo ∨ hi ≤ lo) ∧ n ≤ cap ∧ cap ≤ maxLen ∧ cur.size = cap * size ∧ cur.toList.take (n * size) = xs)
def RowV (e : TypeId) (size : Nat) (v : Value) (n : Nat) (xs : List Value) : HP where
 on w F := RowOn e size v n xs w F
 loc := by
  rintro w w' F ⟨h1,h2⟩ h
  refine ⟨h1, ?_⟩
  rcases h2 with h2 | ⟨g,cap,cur,lo,hi,h3,h4,h5,h6⟩
  ·exact .inl h2
  ·exact .inr ⟨g,cap,cur,lo,hi,h3,h4,(h g h4).trans h5,h6⟩
 up := by
  rintro w F G ⟨h1,h2⟩ h
  refine ⟨h1, ?_⟩
  rcases h2 with h2 | ⟨g,cap,cur,lo,hi,h3,h4,h6⟩
  ·exact .inl h2
  ·exact .inr ⟨g,cap,cur,lo,hi,h3,h _ h4,h6⟩
def ReadsV (size : Nat) (w : World) (v : Value) (n : Nat) (xs : List Value) : Prop :=
 xs.length = n * size ∧ ∃ A c,v = .slice A n c ∧ n ≤ c ∧ c ≤ maxLen ∧ ∀ j u,xs[j]? = some u → ∃ ad,A = some ad ∧ w.cell? (ad.add j) = some u
theorem add_plain (g j : Nat) : (⟨g,0,none⟩ : Addr).add j = ⟨g,j,none⟩ := by unfold Addr.add; split <;> simp_all
section
variable {B : Nat} {w0 w : World} {A C D R : HP} {e : TypeId} {size n : Nat} {v : Value} {xs : List Value}
theorem RowOn.reads {F : Nat → Prop} (h : RowOn e size v n xs w F) : ReadsV size w v n xs := by
 obtain ⟨h1,h2⟩ := h
 refine ⟨h1, ?_⟩
 rcases h2 with ⟨rfl,rfl⟩ | ⟨g,cap,cur,lo,hi,rfl,h4,h5,h6,h7,h8,h9,h10⟩
 ·refine ⟨none,0,rfl,Nat.le_refl _,Nat.zero_le _,fun j u hu => ?_⟩
  have : xs = [] := List.eq_nil_of_length_eq_zero (by omega)
  subst this
  simp at hu
 ·refine ⟨_,cap,rfl,h7,h8,fun j u hu => ⟨_,rfl, ?_⟩⟩
  rw [add_plain,cell_of_row w g j cur e (lo,hi) h5]
  rw [← h10,List.getElem?_take] at hu
  split at hu
  ·simpa using hu
  ·cases hu
theorem St.reads (h : St B w0 w (RowV e size v n xs • R)) : ReadsV size w v n xs := by
 obtain ⟨_,_,F,hF,F1,F2,h1,h2,hd,ha,hr⟩ := h
 exact RowOn.reads ha
theorem St.nil (h : St B w0 w R) (e : TypeId) (size : Nat) : St B w0 w (RowV e size (.slice none 0 0) 0 [] • R) := by
 have h' : St B w0 w (emp • R) := h.pad.swap
 exact h'.mapFirst fun w F _ => ⟨by simp,.inl ⟨rfl,rfl⟩⟩
theorem St.rowLen (h : St B w0 w (RowV e size v n xs • R)) : xs.length = n * size := by
 obtain ⟨_,_,F,hF,F1,F2,h1,h2,hd,ha,hr⟩ := h
 exact ha.1
theorem St.blkRow {g cap : Nat} {cur : Array Value} {lo hi : Nat} (h : St B w0 w (Blk g (.cells cur e (lo,hi)) • R)) (hn : n ≤ cap) (hc : cap ≤ maxLen) (hs : cur.size = cap * size)
  (hf : cur.size ≤ lo ∨ hi ≤ lo) (hx : cur.toList.take (n * size) = xs) : St B w0 w (RowV e size (.slice (some ⟨g,0,none⟩) n cap) n xs • R) := by
 refine h.mapFirst fun w F ⟨hg,hb⟩ => ⟨?_,.inr ⟨g,cap,cur,lo,hi,rfl,hg,hb,hf,hn,hc,hs,hx⟩⟩
 rw [← hx,List.length_take]
 have : n * size ≤ cap * size := Nat.mul_le_mul_right _ hn
 simp only [Array.length_toList]
 omega
theorem St.rowForm (h : St B w0 w (RowV e size v n xs • R)) :
  (v = .slice none 0 0 ∧ n = 0 ∧ xs = []) ∨
  ∃ g cap cur lo hi,v = .slice (some ⟨g,0,none⟩) n cap ∧ (cur.size ≤ lo ∨ hi ≤ lo) ∧ n ≤ cap ∧ cap ≤ maxLen ∧ cur.size = cap * size ∧ cur.toList.take (n * size) = xs ∧ St B w0 w (Blk g (.cells cur e (lo,hi)) • R) := by
 obtain ⟨hb,hs,F,hF,F1,F2,h1,h2,hd,⟨hl,ha⟩,hr⟩ := h
 rcases ha with ⟨rfl,rfl⟩ | ⟨g,cap,cur,lo,hi,rfl,h4,h5,h6,h7,h8,h9,h10⟩
 ·exact .inl ⟨rfl,rfl,List.eq_nil_of_length_eq_zero (by omega)⟩
 ·exact .inr ⟨g,cap,cur,lo,hi,rfl,h6,h7,h8,h9,h10,hb,hs,F,hF,F1,F2,h1,h2,hd,⟨h4,h5⟩,hr⟩
end
section
variable {P : Program}
theorem run_storeCells_off (g o lo hi : Nat) (t : TypeId) : ∀ (vs : List Value) (i : Nat) (cur : Array Value) (w : World),w.heap[g]? = some (.cells cur t (lo,hi)) → o + i + vs.length ≤ cur.size → (cur.size ≤ lo ∨ hi ≤ lo) → (∀ v ∈ vs,v.oneCell' = true) →
  (storeCells ⟨g,o,none⟩ vs i).run P w = .ok () (w.setRow g (cur.toList.take (o + i) ++ vs ++ cur.toList.drop (o + i + vs.length)).toArray)
 | [],i,cur,w,hg,_,_,_ => by
  simp only [storeCells,List.append_nil,List.length_nil,Nat.add_zero,List.take_append_drop,Array.toArray_toList]
  rw [setRow_self w g cur t (lo,hi) hg]
  rfl
 | v :: rest,i,cur,w,hg,hl,hfr,h1 => by
  have hi' : o + i < cur.size := by simp at hl; omega
  have hadd : (⟨g,o,none⟩ : Addr).add i = ⟨g,o + i,none⟩ := by unfold Addr.add; split <;> simp_all
  have hcell : w.cell? ⟨g,o + i,none⟩ = some cur[o + i] := by simp [World.cell?,hg,hi']
  have hfro : w.frozen? ⟨g,o + i,none⟩ = false := by simp [World.frozen?,hg]; omega
  have hst : (store ((⟨g,o,none⟩ : Addr).add i) v).run P w = .ok () (w.setRow g (cur.setIfInBounds (o + i) v)) := by
   rw [hadd,run_store P w _ v _ (h1 v (by simp)),hcell]
   simp [hfro,setCell_eq_setRow w g (o + i) cur t (lo,hi) v hg]
  have ih := run_storeCells_off g o lo hi t rest (i + 1) (cur.setIfInBounds (o + i) v) (w.setRow g (cur.setIfInBounds (o + i) v)) (setRow_heap w g cur _ t _ hg) (by simp at hl ⊢; omega) (by simpa using hfr) (fun x hx => h1 x (by simp [hx]))
  simp only [storeCells,Sem.run_bind,hst,Result.andThen_ok,ih,setRow_setRow]
  congr 3
  have e := list_seg_step cur.toList (o + i) v rest (by simp at hl ⊢; omega)
  simpa [Array.toList_setIfInBounds,Nat.add_assoc] using e
theorem run_append_room_off (w : World) (t ty e : TypeId) (i : TypeInfo) (ht : P.underlying t = some (.slice e)) (hi : P.info? e = some i)
  (g sLen sCap lo hi' : Nat) (cur : Array Value) (hg : w.heap[g]? = some (.cells cur e (lo,hi'))) (hfr : cur.size ≤ lo ∨ hi' ≤ lo)
  (a : Addr) (m c : Nat) (news : List Value) (hl : news.length = m * i.size) (hnews : ∀ j u,news[j]? = some u → w.cell? (a.add j) = some u) (h1 : ∀ u ∈ news,u.oneCell' = true)
  (hroom : sLen + m ≤ sCap) (hfit : sLen * i.size + news.length ≤ cur.size) :
  (Builtin.append_ #[t,t] ty #[.slice (some ⟨g,0,none⟩) sLen sCap,.slice (some a) m c]).run P w =
   .ok (.slice (some ⟨g,0,none⟩) (sLen + m) sCap) (w.setRow g (cur.toList.take (sLen * i.size) ++ news ++ cur.toList.drop (sLen * i.size + news.length)).toArray) := by
 have hf := run_firstCells_some (P := P) w i.size m a m c news hl hnews
 have hst := run_storeCells_off (P := P) g (sLen * i.size) lo hi' e news 0 cur w hg (by simpa using hfit) hfr h1
 simp only [Nat.add_zero] at hst
 simp [Builtin.append_,run_underlying ht,sizeOf,typeInfo,hi,Builtin.lenOf,hroom,hf,Addr.add_lit,hst]
theorem run_append_empty (w : World) (t ty e : TypeId) (i : TypeInfo) (ht : P.underlying t = some (.slice e)) (hi : P.info? e = some i) (base : Option Addr) (hb : ∀ a,base = some a → ∃ g,a = ⟨g,0,none⟩) (sLen sCap : Nat) (hc : sLen ≤ sCap) (A : Option Addr) (c : Nat) :
  (Builtin.append_ #[t,t] ty #[.slice base sLen sCap,.slice A 0 c]).run P w = .ok (.slice base sLen sCap) w := by
 cases base with
 | none => cases A <;> simp [Builtin.append_,run_underlying ht,sizeOf,typeInfo,hi,Builtin.lenOf,hc,Builtin.firstCells,loadCells,loadCellsFrom]
 | some a => cases A <;> simp [Builtin.append_,run_underlying ht,sizeOf,typeInfo,hi,Builtin.lenOf,hc,Builtin.firstCells,loadCells,loadCellsFrom,storeCells]
variable {B : Nat} {w0 w : World} {R : HP} {e : TypeId} {size n : Nat} {v : Value} {xs : List Value}
end
end Go.Proofs.YtbjddomocggjmaaGreat.Sep
