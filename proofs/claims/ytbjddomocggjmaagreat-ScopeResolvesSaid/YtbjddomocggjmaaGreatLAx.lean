/- The names of what is resolved differ: plain (for seat z; the same as in Sra). -/
import Derived.Test.YtbjddomocggjmaaGreatLAa
import Derived.Test.YtbjddomocggjmaaGreatLAl
import Derived.Test.YtbjddomocggjmaaGreatLAo
import Derived.Test.YtbjddomocggjmaaGreatLAw
section
namespace Go.Proofs.YtbjddomocggjmaaGreat.Sc
open Go.RowKit Go.ChangeShapes Go.WideShapes Go.Proofs.YtbjddomocggjmaaGreat.Sep
open Go.Proofs.YtbjddomocggjmaaGreatW.PrintWords
variable {B : Nat} {w0 w : World} {R : HP}
theorem toL_app (a b : ByteArray) : (a ++ b).data.toList = a.data.toList ++ b.data.toList := by simp
theorem dotB_list (a n : ByteArray) : (dotB a n).data.toList = a.data.toList ++ 46 :: n.data.toList := by
 unfold dotB
 rw [toL_app,toL_app,List.append_assoc]
 rfl
theorem rest_dot : ∀ l : List UInt8,restB l = true → ∀ c ∈ l,c ≠ 46
 | [],_,c,hc => by cases hc
 | d :: r,h,c,hc => by
  have hr : restB r = true ∧ d ≠ 46 := by
   unfold restB at h
   by_cases hd : al d = true
   ·rw [if_pos hd] at h
    exact ⟨h,fun e => by rw [e] at hd; revert hd; decide⟩
   ·rw [if_neg hd] at h
    by_cases h45 : d = 45
    ·rw [if_pos h45] at h
     refine ⟨?_,fun e => by rw [h45] at e; cases e⟩
     match r,h with
     | e :: r',h => exact (Bool.and_eq_true _ _ ▸ h : _ ∧ _).2
    ·rw [if_neg h45] at h
     cases h
  rcases List.mem_cons.1 hc with rfl | hc
  ·exact hr.2
  ·exact rest_dot r hr.1 c hc
theorem name_whole {s : ByteArray} (h : nameB s = true) : wholeB s.data.toList = true ∧ decide (headI s.data.toList < 97) = true := by
 unfold nameB upperB at h
 rw [Bool.and_eq_true,Bool.and_eq_true] at h
 exact h.1
theorem name_dot {s : ByteArray} (h : nameB s = true) : ∀ c ∈ s.data.toList,c ≠ 46 := by
 have h1 := (name_whole h).1
 revert h1
 generalize s.data.toList = l
 intro h1 c hc
 match l,h1,hc with
 | d :: r,h1,hc =>
  have h2 := (Bool.and_eq_true _ _ ▸ h1 : letterI d.toNat = true ∧ restB r = true)
  rcases List.mem_cons.1 hc with rfl | hc
  ·intro e
   rw [e] at h2
   exact absurd h2.1 (by decide)
  ·exact rest_dot r h2.2 c hc
theorem dot_split : ∀ {a b r r' : List UInt8},(∀ c ∈ a,c ≠ 46) → (∀ c ∈ b,c ≠ 46) → a ++ 46 :: r = b ++ 46 :: r' → a = b ∧ r = r'
 | [],[],r,r',_,_,h => by simpa using h
 | [],y :: b,r,r',_,hb,h => by
  simp only [List.nil_append,List.cons_append,List.cons.injEq] at h
  exact absurd h.1.symm (hb y (by simp))
 | x :: a,[],r,r',ha,_,h => by
  simp only [List.nil_append,List.cons_append,List.cons.injEq] at h
  exact absurd h.1 (ha x (by simp))
 | x :: a,y :: b,r,r',ha,hb,h => by
  simp only [List.cons_append,List.cons.injEq] at h
  obtain ⟨e1,e2⟩ := dot_split (fun c hc => ha c (by simp [hc])) (fun c hc => hb c (by simp [hc])) h.2
  rw [h.1,e1,e2]
  exact ⟨rfl,rfl⟩
section
variable {a b n : ByteArray} {t : Ty}
end
end Go.Proofs.YtbjddomocggjmaaGreat.Sc
end
section
namespace Go.Proofs.YtbjddomocggjmaaGreat.Sc
open Go.RowKit Go.ChangeShapes Go.WideShapes Go.Proofs.YtbjddomocggjmaaGreat.Sep
open Go.Proofs.YtbjddomocggjmaaGreatW.PrintWords
variable {B : Nat} {w0 w : World} {R : HP}
theorem mapO_map {α β γ : Type} {b : α → Option β} {g : β → γ} {f : α → γ} (hb : ∀ a x,b a = some x → g x = f a) : ∀ {l : List α} {y : List β},mapO b l = some y → y.map g = l.map f
 | [],y,h => by cases h; rfl
 | c :: l,y,h => by
  unfold mapO at h
  cases h1 : b c with
  | none => rw [h1] at h; cases h
  | some x =>
   cases h2 : mapO b l with
   | none => rw [h1,h2] at h; cases h
   | some ys =>
    rw [h1,h2] at h
    cases h
    rw [List.map_cons,List.map_cons,mapO_map hb h2,hb c x h1]
def nmsP (l : List Md) : List (ByteArray × ByteArray) := (l.map fun m => m.df.map fun d => (m.n,d.n)).flatten
def nmP (x : En) : ByteArray × ByteArray := (x.m,x.n)
theorem enOf_nm {f : List UInt8 → Option ByteArray} {m : Md} {d : Df} {x : En} (h : enOf f m d = some x) : nmP x = (m.n,d.n) := by
 unfold enOf at h
 cases h1 : typP f 40 d.t with
 | none => rw [h1] at h; cases h
 | some t => rw [h1] at h; cases h; rfl
theorem modP_nm {h : ByteArray → ByteArray → Bool} {m : Md} {y : List En} (e : modP h m = some y) : y.map nmP = m.df.map fun d => (m.n,d.n) := by
 unfold modP at e
 cases h1 : impI h (ownP m) m.im with
 | none => rw [h1] at e; cases e
 | some fm => rw [h1] at e; exact mapO_map (fun a x hx => enOf_nm hx) e
theorem all_parts {l : List Md} {y : List En} (h : allP l = some y) : ∃ z,mapO (modP (ownHas l)) l = some z ∧ y = z.flatten := by
 unfold allP at h
 cases h1 : mapO (modP (ownHas l)) l with
 | none => rw [h1] at h; cases h
 | some z => rw [h1] at h; cases h; exact ⟨z,rfl,rfl⟩
theorem all_nm {l : List Md} {y : List En} (h : allP l = some y) : y.map nmP = nmsP l := by
 obtain ⟨z,hz,rfl⟩ := all_parts h
 rw [List.map_flatten,mapO_map (fun a x hx => modP_nm hx) hz]
 rfl
theorem nms_nodup {l : List Md} (h1 : badB l = false) (h2 : dupB l = false) : ((nmsP l).map fun p => (dotB p.1 p.2).data.toList).Nodup := by
 obtain ⟨-,h3⟩ := bad_false.1 h1
 obtain ⟨h4,h5⟩ := dup_false.1 h2
 have h6 : (kys (mdNames l)).Nodup := of_decide_eq_true h4
 have hnm : ∀ m ∈ l,nameB m.n = true ∧ ∀ d ∈ m.df,nameB d.n = true := fun m hm => by
  have h := h3 m hm
  unfold mdB at h
  simp only [Bool.and_eq_true,List.all_eq_true] at h
  refine ⟨h.1.1.1,fun d hd => ?_⟩
  have := h.2.2 d hd
  unfold dfB at this
  rw [Bool.and_eq_true] at this
  exact this.1
 unfold nmsP
 rw [List.map_flatten,List.map_map]
 unfold List.Nodup
 rw [List.pairwise_flatten]
 constructor
 ·intro r hr
  obtain ⟨m,hm,rfl⟩ := List.mem_map.1 hr
  have hd : (kys (dfNames m)).Nodup := of_decide_eq_true (h5 m hm)
  unfold kys dfNames List.Nodup at hd
  rw [List.map_map,List.pairwise_map] at hd
  show List.Pairwise _ (List.map _ (List.map _ m.df))
  rw [List.map_map,List.pairwise_map]
  refine hd.imp_of_mem fun {a b} ha hb hab he => hab ?_
  have he' : (dotB m.n a.n).data.toList = (dotB m.n b.n).data.toList := he
  rw [dotB_list,dotB_list] at he'
  exact (dot_split (name_dot (hnm m hm).1) (name_dot (hnm m hm).1) he').2
 ·unfold kys mdNames List.Nodup at h6
  rw [List.map_map,List.pairwise_map] at h6
  rw [List.pairwise_map]
  refine h6.imp_of_mem fun {a b} ha hb hab x hx y hy he => hab ?_
  have hx' : ∃ d ∈ a.df,(dotB a.n d.n).data.toList = x := by simpa using hx
  have hy' : ∃ d ∈ b.df,(dotB b.n d.n).data.toList = y := by simpa using hy
  obtain ⟨d,hd,rfl⟩ := hx'
  obtain ⟨d',hd',rfl⟩ := hy'
  rw [dotB_list,dotB_list] at he
  exact (dot_split (name_dot (hnm a ha).1) (name_dot (hnm b hb).1) he).1
theorem all_nodup {l : List Md} {y : List En} (h1 : badB l = false) (h2 : dupB l = false) (h : allP l = some y) : (y.map enNm).Nodup := by
 have e : y.map enNm = (nmsP l).map fun p => (dotB p.1 p.2).data.toList := by
  rw [← all_nm h,List.map_map]
  rfl
 rw [e]
 exact nms_nodup h1 h2
theorem all_o {l : List Md} {y : List En} (h1 : badB l = false) (ho : ∀ m ∈ l,oMd m) (h : allP l = some y) : ∀ x ∈ y,oS x.m ∧ oS x.n ∧ Dp 40 x.t := by
 obtain ⟨-,h3⟩ := bad_false.1 h1
 obtain ⟨z,hz,rfl⟩ := all_parts h
 intro x hx
 obtain ⟨r,hr,hxr⟩ := List.mem_flatten.1 hx
 obtain ⟨m,hm,e⟩ := mapO_mem hz r hr
 unfold modP at e
 cases h1 : impI (ownHas l) (ownP m) m.im with
 | none => rw [h1] at e; cases e
 | some fm =>
  rw [h1] at e
  obtain ⟨d,hd,e⟩ := mapO_mem e x hxr
  have hom := ho m hm
  unfold enOf at e
  cases h4 : typP (lookS fm) 40 d.t with
  | none => rw [h4] at e; cases e
  | some t =>
   rw [h4] at e
   cases e
   exact ⟨hom.1,(hom.2.2.2 d hd).1,dp_typ (look_sized (impI_sized hom.2.1.2 (own_sized hom) h1)) 40 d.t t h4 ((mdB_has (h3 m hm)).2.2.2 d hd) (hom.2.2.2 d hd).2⟩
end Go.Proofs.YtbjddomocggjmaaGreat.Sc
end
