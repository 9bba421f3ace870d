/- The reference's names and the program's: plain. -/
import Derived.Test.YtbjddomocggjmaaGreatLAf
import Derived.Test.YtbjddomocggjmaaGreatLAk
section
namespace Go.Proofs.YtbjddomocggjmaaGreat.Sc
open Go.RowKit Go.ChangeShapes Go.WideShapes Go.Proofs.YtbjddomocggjmaaGreat.Sep
open Go.Proofs.YtbjddomocggjmaaGreatW.PrintWords
variable {B : Nat} {w0 w : World} {R : HP}
theorem mapO_mem {α β : Type} {b : α → Option β} : ∀ {l : List α} {y : List β},mapO b l = some y → ∀ z ∈ y, ∃ a ∈ l,b a = some z
 | [],y,h,z,hz => by cases h; cases hz
 | c :: l,y,h,z,hz => by
  unfold mapO at h
  cases h1 : b c with
  | none => rw [h1] at h; cases h
  | some x =>
   cases h2 : mapO b l with
   | none => rw [h1,h2] at h; cases h
   | some ys =>
    rw [h1,h2] at h
    cases h
    rcases List.mem_cons.1 hz with rfl | hz
    ·exact ⟨c,by simp,h1⟩
    ·obtain ⟨a,ha,e⟩ := mapO_mem h2 z hz
     exact ⟨a,by simp [ha],e⟩
theorem dp_shaped : ∀ (n : Nat) (t : Ty),shapedB n t = true → oTy t → Dp n t
 | 0,t,h,_ => by cases h
 | n + 1,t,h,ho => by
  have hh := shaped_has (b := shapedB n) h
  have hp := oTy_parts ho
  refine ⟨?_,fun p hm => dp_shaped n p.t (hh.ps.2 p hm).1 (hp.2.2.2.1.2 p hm).2.1,fun p hm => dp_shaped n p.t (hh.ad.2 p hm).1 (hp.2.2.2.2.1.2 p hm).2.1,fun x hm => dp_shaped n x (hh.el.2 x hm) (hp.2.2.2.2.2.1.2 x hm)⟩
  have := hp.2.2.2.2.2.2
  simp only [oS,M] at this
  simp only [maxLen]
  omega
theorem dp_parts {f : List UInt8 → Option ByteArray} {n : Nat} (ih : ∀ (t r : Ty),typP f n t = some r → shapedB n t = true → oTy t → Dp n r) {l y : List (Pt Ty)} (h : partsP (typP f n) l = some y) (hs : ∀ p ∈ l,shapedB n p.t = true) (ho : ∀ p ∈ l,oTy p.t) : ∀ p ∈ y,Dp n p.t := by
 intro p hp
 obtain ⟨a,ha,e⟩ := mapO_mem h p hp
 unfold partP at e
 cases h1 : typP f n a.t with
 | none => rw [h1] at e; cases e
 | some r =>
  rw [h1] at e
  cases e
  exact ih a.t r h1 (hs a ha) (ho a ha)
theorem dp_typ {f : List UInt8 → Option ByteArray} (hf : ∀ k v,f k = some v → v.size ≤ maxLen) : ∀ (n : Nat) (t r : Ty),typP f n t = some r → shapedB n t = true → oTy t → Dp n r
 | 0,t,r,_,h,_ => by cases h
 | n + 1,t,r,h,hs,ho => by
  have hd := dp_shaped (n + 1) t hs ho
  have hh := shaped_has (b := shapedB n) hs
  have hp := oTy_parts ho
  unfold typP at h
  by_cases hk : t.k = 11
  ·rw [if_pos hk] at h
   cases h1 : f t.n.data.toList with
   | none => rw [h1] at h; cases h
   | some s =>
    rw [h1] at h
    cases h
    exact ⟨hf _ _ h1,hd.2⟩
  rw [if_neg hk] at h
  split at h
  ·unfold elsP at h
   cases h1 : partsP (typP f n) t.ps with
   | none => rw [h1] at h; cases h
   | some ps =>
    cases h2 : partsP (typP f n) t.ad with
    | none => rw [h1,h2] at h; cases h
    | some ad =>
     rw [h1,h2] at h
     cases h3 : mapO (typP f n) t.el with
     | none => rw [h3] at h; cases h
     | some el =>
      rw [h3] at h
      cases h
      refine ⟨hd.1,dp_parts (dp_typ hf n) h1 (fun p hm => (hh.ps.2 p hm).1) (fun p hm => (hp.2.2.2.1.2 p hm).2.1),dp_parts (dp_typ hf n) h2 (fun p hm => (hh.ad.2 p hm).1) (fun p hm => (hp.2.2.2.2.1.2 p hm).2.1),fun x hx => ?_⟩
      obtain ⟨a,ha,e⟩ := mapO_mem h3 x hx
      exact dp_typ hf n a x e (hh.el.2 a ha) (hp.2.2.2.2.2.1.2 a ha)
  ·cases h
def Sized (fm : FM) : Prop := ∀ p ∈ fm,p.2.size ≤ maxLen
theorem look_sized {fm : FM} (h : Sized fm) (k : List UInt8) (v : ByteArray) (hv : lookS fm k = some v) : v.size ≤ maxLen := by
 unfold lookS at hv
 cases hf : fm.reverse.find? fun p => p.1 == k with
 | none => rw [hf] at hv; cases hv
 | some p =>
  rw [hf] at hv
  cases hv
  exact h p (List.mem_reverse.1 (List.mem_of_find?_eq_some hf))
theorem dot_size {a b : ByteArray} (ha : oS a) (hb : oS b) : (dotB a b).size ≤ maxLen := by
 unfold dotB
 rw [ByteArray.size_append,ByteArray.size_append]
 simp only [oS,M] at ha hb
 have : (⟨#[46]⟩ : ByteArray).size = 1 := rfl
 simp only [maxLen]
 omega
theorem own_sized {m : Md} (ho : oMd m) : Sized (ownP m) := fun p hp => by
 obtain ⟨d,hd,rfl⟩ := List.mem_map.1 hp
 exact dot_size ho.1 (ho.2.2.2 d hd).1
theorem impN_sized {h : ByteArray → ByteArray → Bool} {fr : ByteArray} (hf : oS fr) : ∀ {l : List ByteArray} {fm r : FM},(∀ s ∈ l,oS s) → Sized fm → impN h fr fm l = some r → Sized r
 | [],fm,r,_,hs,e => by cases e; exact hs
 | s :: l,fm,r,ho,hs,e => by
  unfold impN at e
  split at e
  ·cases e
  ·refine impN_sized hf (fun x hx => ho x (by simp [hx])) (fun p hp => ?_) e
   rcases List.mem_append.1 hp with hp | hp
   ·exact hs p hp
   ·rw [List.mem_singleton.1 hp]
    exact dot_size hf (ho s (by simp))
theorem impI_sized {h : ByteArray → ByteArray → Bool} : ∀ {l : List Im} {fm r : FM},(∀ x ∈ l,oIm x) → Sized fm → impI h fm l = some r → Sized r
 | [],fm,r,_,hs,e => by cases e; exact hs
 | x :: l,fm,r,ho,hs,e => by
  unfold impI at e
  cases h1 : impN h x.f1 fm x.f0 with
  | none => rw [h1] at e; cases e
  | some fm' =>
   rw [h1] at e
   have hx := ho x (by simp)
   exact impI_sized (fun y hy => ho y (by simp [hy])) (impN_sized hx.2.2 hx.2.1 hs h1) e
theorem zip_next {α β γ : Type} (f : α → β → γ) {l : List α} {bs : List β} {x : Int} {r : α} (b : β) (h0 : 0 ≤ x) (hl : bs.length = x.toNat) (h : l[x.toNat]? = some r) : List.zipWith f (l.take (x + 1).toNat) (bs ++ [b]) = List.zipWith f (l.take x.toNat) bs ++ [f r b] := by
 have e : (x + 1).toNat = x.toNat + 1 := by omega
 have hlt := (List.getElem?_eq_some_iff.1 h).1
 rw [e,List.take_add_one,h,List.zipWith_append (by rw [List.length_take]; omega)]
 rfl
theorem mdB_has {m : Md} (h : mdB m = true) : m.im.length ≤ 256 ∧ m.df.length ≤ 256 ∧ (∀ x ∈ m.im,x.f0.length ≤ 256) ∧ ∀ d ∈ m.df,shapedB 40 d.t = true := by
 unfold mdB at h
 simp only [Bool.and_eq_true,Bool.not_eq_true',decide_eq_false_iff_not,List.all_eq_true] at h
 refine ⟨by omega,by omega,fun x hx => ?_,fun d hd => ?_⟩
 ·have := h.2.1 x hx
  unfold imB at this
  simp only [Bool.and_eq_true,Bool.not_eq_true',decide_eq_false_iff_not] at this
  omega
 ·have := h.2.2 d hd
  unfold dfB at this
  rw [Bool.and_eq_true] at this
  exact this.2
def fullsV (l : List Md) (bs : List (Nat × Nat)) : List (Nat × Kv) := List.zipWith (fun m b => (b.1,strM (ownP m))) l bs
theorem res_dup2 {l : List Md} (h1 : badB l = false) (h2 : dupB l = true) : resP l = (7,[]) := by
 unfold resP
 rw [h1,if_neg (by simp),h2,if_pos rfl]
theorem res_bad {l : List Md} (h1 : badB l = true) : resP l = (1,[]) := by
 unfold resP
 rw [h1,if_pos rfl]
theorem res_all {l : List Md} (h1 : badB l = false) (h2 : dupB l = false) : resP l = match allP l with
  | none => (7,[])
  | some y => if finB y = true then (0,y) else (9,[]) := by
 unfold resP
 rw [h1,if_neg (by simp),h2,if_neg (by simp)]
 cases allP l <;> rfl
theorem dup_mem {l : List Md} {m : Md} (hm : m ∈ l) (h : onceB (dfNames m) = false) : dupB l = true := by
 unfold dupB
 rw [Bool.or_eq_true,List.any_eq_true]
 exact .inr ⟨m,hm,by rw [h]; rfl⟩
theorem dup_once {l : List Md} (h : onceB (mdNames l) = false) : dupB l = true := by
 unfold dupB
 rw [h]
 rfl
theorem res_stuck {l : List Md} {m : Md} (h1 : badB l = false) (h2 : dupB l = false) (hm : m ∈ l) (h : modP (ownHas l) m = none) : resP l = (7,[]) := by
 rw [res_all h1 h2]
 unfold allP
 rw [mapO_none hm h]
 rfl
theorem finite_at {B : Nat} (A : Option Addr) (c : Nat) (l : List En) (h : St B w0 w R) (hC : kEn.C w A l.length l) (ho : ∀ x ∈ l,oS x.m ∧ oS x.n ∧ Dp 40 x.t) (hl : l.length ≤ 1000000) :
  Calls Tryz.prog 17 #[.slice A l.length c] w fun e w' => e = .returned (.bool (finB l)) ∧ St B w0 w' R :=
 (finite_calls (w0 := w) (R := emp) A c l (St.start w) hC ho hl).mono fun _ _ ⟨h1,h2⟩ => ⟨h1,(nest h h2).drop⟩
structure DfC (w0 : World) (d : Df) (cs ts : List Value) : Prop where
 len : cs.length = 16
 n : cs[0]? = some (.string d.n)
 typ : ∀ (j : Nat) (v : Value),ts[j]? = some v → cs[1 + j]? = some v
 tlen : ts.length = 15
 kt : kTy.K w0 d.t ts
 one : ∀ u ∈ cs,u.oneCell' = true
theorem df_cells {d : Df} {cs : List Value} (h : kDf.K w0 d cs) : ∃ ts,DfC w0 d cs ts := by
 have hl : cs.length = 16 := kDf.K_len h
 obtain ⟨ts,e,hT⟩ := kDf_open h
 refine ⟨ts,hl,by rw [e]; rfl,fun j v hv => ?_,kTy.K_len hT,hT,kDf.K_one h⟩
 rw [e,Nat.add_comm]
 exact hv
section
variable {B : Nat} {A C D E F G I J : HP}
theorem eight (h : St B w0 w (A • (C • (D • (E • (F • (G • (I • (J • R))))))))) : St B w0 w (J • (A • (C • (D • (E • (F • (G • (I • R)))))))) := (seven h.assoc').two.assoc.three
end
theorem fulls_at {l : List Md} {bs : List (Nat × Nat)} {dn : List (Nat × Kv)} {x : Nat} {r : Md} {b : Nat × Nat} (hd : dn.length = x) (h1 : l[x]? = some r) (h2 : bs[x]? = some b) : (dn ++ fullsV (l.drop x) (bs.drop x))[x]? = some (b.1,strM (ownP r)) := by
 rw [List.getElem?_append_right (by omega),hd,Nat.sub_self]
 exact zip_get (f := fun (m : Md) (b : Nat × Nat) => (b.1,strM (ownP m))) (by rw [List.getElem?_drop,Nat.add_zero,h1]) (by rw [List.getElem?_drop,Nat.add_zero,h2])
theorem fulls_set {l : List Md} {bs : List (Nat × Nat)} {dn : List (Nat × Kv)} {x : Nat} {r : Md} {b : Nat × Nat} (p : Nat × Kv) (hd : dn.length = x) (h1 : l[x]? = some r) (h2 : bs[x]? = some b) : (dn ++ fullsV (l.drop x) (bs.drop x)).set x p = (dn ++ [p]) ++ fullsV (l.drop (x + 1)) (bs.drop (x + 1)) := by
 have hl := (List.getElem?_eq_some_iff.1 h1).1
 have hb := (List.getElem?_eq_some_iff.1 h2).1
 rw [List.set_append_right _ _ (by omega),hd,Nat.sub_self,List.drop_eq_getElem_cons hl,List.drop_eq_getElem_cons hb,List.append_assoc]
 rfl
theorem info_ens : (Tryz.prog.info? 46).map (fun i => (i.zero,i.size,i.bytes)) = some (some (.agg #[.string ByteArray.empty,.string ByteArray.empty,.bool false,.int .i64 0,.string ByteArray.empty,.int .i64 0,.int .i64 0,.int .i64 0,.bool false,.bool false,.slice none 0 0,.bool false,.string ByteArray.empty,.slice none 0 0,.slice none 0 0,.slice none 0 0,.slice none 0 0,.slice none 0 0]),18,264) := by kernel_rfl
end Go.Proofs.YtbjddomocggjmaaGreat.Sc
end
section
namespace Go.Proofs.YtbjddomocggjmaaGreat.Sc
open Go.RowKit Go.ChangeShapes Go.WideShapes Go.Proofs.YtbjddomocggjmaaGreat.Sep
open Go.Proofs.YtbjddomocggjmaaGreatW.PrintWords
variable {B : Nat} {w0 w : World} {R : HP}
theorem ba_list (s : ByteArray) : (⟨s.data.toList.toArray⟩ : ByteArray) = s := by
 cases s
 simp
theorem ba_eq {a b : ByteArray} (h : a.data.toList = b.data.toList) : a = b := by
 rw [← ba_list a, ← ba_list b,h]
theorem ownR_iff {m : Md} {s : ByteArray} : ownR m s = true ↔ ∃ d ∈ m.df,d.n = s := by
 unfold ownR kys
 rw [List.contains_iff_mem,List.map_map,List.mem_map]
 exact ⟨fun ⟨d,hd,e⟩ => ⟨d,hd,ba_eq e⟩,fun ⟨d,hd,e⟩ => ⟨d,hd,by rw [← e]; rfl⟩⟩
theorem hasI_iff {x : Im} {s : ByteArray} : hasI s x = true ↔ s ∈ x.f0 := by
 unfold hasI kys
 rw [List.contains_iff_mem,List.mem_map]
 exact ⟨fun ⟨d,hd,e⟩ => by rw [← ba_eq e]; exact hd,fun h => ⟨s,h,rfl⟩⟩
theorem ownsR_has (l : List Md) (fr s : ByteArray) : ownsR l fr s = ownHas l fr s := by
 unfold ownsR ownHas
 have e : mdNm fr = fun m : Md => m.n.data.toList == fr.data.toList := by
  funext m
  unfold mdNm
  rw [Lib.toList_data,Lib.toList_data]
 rw [e]
 rfl
theorem look_nodup : ∀ {fm : FM} {k : List UInt8} {v : ByteArray},(fm.map (·.1)).Nodup → (k,v) ∈ fm → lookS fm k = some v := by
 intro fm k v hn hm
 unfold lookS
 have hn' : (fm.reverse.map (·.1)).Nodup := by rw [List.map_reverse]; exact (List.reverse_perm _).nodup_iff.2 hn
 have hm' : (k,v) ∈ fm.reverse := List.mem_reverse.2 hm
 generalize fm.reverse = r at hn' hm'
 induction r with
 | nil => cases hm'
 | cons p r ih =>
  obtain ⟨h1,h2⟩ := List.nodup_cons.1 hn'
  rcases List.mem_cons.1 hm' with rfl | hm'
  ·rw [List.find?_cons_of_pos (by simp)]
   rfl
  ·rw [List.find?_cons_of_neg,ih h2 hm']
   intro hc
   have hc' : p.1 = k := by simpa using hc
   exact h1 (List.mem_map.2 ⟨_,hm',hc'.symm⟩)
theorem look_not {fm : FM} {k : List UInt8} (h : k ∉ fm.map (·.1)) : lookS fm k = none := by
 unfold lookS
 have : fm.reverse.find? (fun p => p.1 == k) = none := by
  rw [List.find?_eq_none]
  intro p hp hc
  exact h (List.mem_map.2 ⟨p,List.mem_reverse.1 hp,by simpa using hc⟩)
 rw [this]
 rfl
def impF (l : List Im) : FM := (l.map fun x => x.f0.map fun s => (s.data.toList,dotB x.f1 s)).flatten
theorem imp1 {h : ByteArray → ByteArray → Bool} {fr : ByteArray} : ∀ {s : List ByteArray} {fm : FM},(fm.map (·.1)).Nodup →
  (impN h fr fm s = if (s.all (h fr) = true ∧ (fm.map (·.1) ++ kys s).Nodup) then some (fm ++ s.map fun s => (s.data.toList,dotB fr s)) else none)
 | [],fm,hn => by
  unfold impN
  rw [if_pos ⟨rfl,by simpa [kys] using hn⟩]
  simp
 | s :: r,fm,hn => by
  unfold impN
  by_cases hc : ((lookS fm s.data.toList).isSome || !h fr s) = true
  ·rw [if_pos hc,if_neg]
   rintro ⟨ha,hd⟩
   rw [Bool.or_eq_true] at hc
   rcases hc with hc | hc
   ·have hm : s.data.toList ∈ fm.map (·.1) := by
     by_cases hm : s.data.toList ∈ fm.map (·.1)
     ·exact hm
     ·rw [look_not hm] at hc; cases hc
    rw [List.nodup_append] at hd
    exact hd.2.2 _ hm _ (by simp [kys]) rfl
   ·rw [List.all_cons,Bool.and_eq_true] at ha
    rw [ha.1] at hc
    cases hc
  ·rw [if_neg hc]
   have h1 : lookS fm s.data.toList = none ∧ h fr s = true := by
    rw [Bool.or_eq_true,not_or] at hc
    refine ⟨?_,by simpa using hc.2⟩
    cases hl : lookS fm s.data.toList with
    | none => rfl
    | some v => rw [hl] at hc; exact absurd rfl hc.1
   have hnm : s.data.toList ∉ fm.map (·.1) := fun hm => by
    obtain ⟨p,hp,e⟩ := List.mem_map.1 hm
    rw [look_nodup (v := p.2) hn (by rw [← e]; exact hp)] at h1
    cases h1.1
   have hn2 : ((fm ++ [(s.data.toList,dotB fr s)]).map (·.1)).Nodup := by
    rw [List.map_append,List.nodup_append]
    refine ⟨hn,by simp,fun a ha b hb => ?_⟩
    rw [show b = s.data.toList by simpa using hb]
    rintro rfl
    exact hnm ha
   rw [imp1 hn2]
   have e1 : ((fm ++ [(s.data.toList,dotB fr s)]).map (·.1) ++ kys r) = fm.map (·.1) ++ kys (s :: r) := by simp [kys]
   have e2 : (s :: r).all (h fr) = r.all (h fr) := by rw [List.all_cons,h1.2,Bool.true_and]
   rw [e1,e2]
   simp
theorem impI_eq {h : ByteArray → ByteArray → Bool} : ∀ {l : List Im} {fm : FM},(fm.map (·.1)).Nodup →
  impI h fm l = if ((l.all fun x => x.f0.all (h x.f1)) = true ∧ (fm.map (·.1) ++ kys (imN l)).Nodup) then some (fm ++ impF l) else none
 | [],fm,hn => by
  unfold impI
  rw [if_pos ⟨rfl,by simpa [kys,imN] using hn⟩]
  simp [impF]
 | x :: l,fm,hn => by
  unfold impI
  rw [imp1 hn]
  have ek : kys (imN (x :: l)) = kys x.f0 ++ kys (imN l) := by simp [kys,imN]
  by_cases hc : x.f0.all (h x.f1) = true ∧ (fm.map (·.1) ++ kys x.f0).Nodup
  ·rw [if_pos hc,Option.bind_some]
   have em : (fm ++ x.f0.map fun s => (s.data.toList,dotB x.f1 s)).map (·.1) = fm.map (·.1) ++ kys x.f0 := by simp [kys]
   rw [impI_eq (by rw [em]; exact hc.2),em,ek,List.all_cons,hc.1,Bool.true_and,List.append_assoc,List.append_assoc]
   rfl
  ·rw [if_neg hc,if_neg]
   ·rfl
   rintro ⟨ha,hd⟩
   rw [List.all_cons,Bool.and_eq_true] at ha
   rw [ek, ← List.append_assoc] at hd
   exact hc ⟨ha.1,(List.nodup_append.1 hd).1⟩
theorem own_keys (m : Md) : (ownP m).map (·.1) = kys (dfN m) := by
 unfold ownP kys dfN
 rw [List.map_map,List.map_map]
 rfl
theorem impF_keys (l : List Im) : (impF l).map (·.1) = kys (imN l) := by
 unfold impF kys imN
 rw [List.map_flatten,List.map_flatten,List.map_map,List.map_map]
 congr 1
 refine List.map_congr_left fun x _ => ?_
 simp
theorem impP_some {s : ByteArray} : ∀ {l : List Im},l.any (hasI s) = true → ∃ x ∈ l,s ∈ x.f0 ∧ impP s l = dotB x.f1 s
 | x :: l,h => by
  unfold impP
  rw [List.any_cons] at h
  cases hx : hasI s x with
  | true => exact ⟨x,by simp,hasI_iff.1 hx,by rw [if_pos rfl]⟩
  | false =>
   rw [hx,Bool.false_or] at h
   obtain ⟨y,hy,h1,h2⟩ := impP_some h
   exact ⟨y,by simp [hy],h1,by rw [if_neg (by simp),h2]⟩
theorem rlook_look {m : Md} (hn : (kys (dfN m ++ imN m.im)).Nodup) : rlook m = lookS (ownP m ++ impF m.im) := by
 have hk : (ownP m ++ impF m.im).map (·.1) = kys (dfN m ++ imN m.im) := by
  rw [List.map_append,own_keys,impF_keys]
  simp [kys]
 have hn2 : ((ownP m ++ impF m.im).map (·.1)).Nodup := by rw [hk]; exact hn
 funext k
 have hs : (⟨k.toArray⟩ : ByteArray).data.toList = k := by simp
 unfold rlook
 generalize (⟨k.toArray⟩ : ByteArray) = s at hs
 subst hs
 cases ho : ownR m s with
 | true =>
  rw [Bool.true_or,if_pos rfl]
  obtain ⟨d,hd,rfl⟩ := ownR_iff.1 ho
  unfold fullP
  rw [if_pos ho]
  exact (look_nodup hn2 (List.mem_append_left _ (List.mem_map.2 ⟨d,hd,rfl⟩))).symm
 | false =>
  rw [Bool.false_or]
  cases hi : m.im.any (hasI s) with
  | true =>
   rw [if_pos rfl]
   obtain ⟨x,hx,h1,h2⟩ := impP_some hi
   unfold fullP
   rw [ho,if_neg (by simp),h2]
   exact (look_nodup hn2 (List.mem_append_right _ (List.mem_flatten.2 ⟨_,List.mem_map.2 ⟨x,hx,rfl⟩,List.mem_map.2 ⟨s,h1,rfl⟩⟩))).symm
  | false =>
   rw [if_neg (by simp)]
   refine (look_not fun hm => ?_).symm
   rw [hk] at hm
   obtain ⟨q,hq,e⟩ := List.mem_map.1 hm
   rw [ba_eq e] at hq
   rcases List.mem_append.1 hq with hq | hq
   ·obtain ⟨d,hd,e⟩ := List.mem_map.1 hq
    rw [ownR_iff.2 ⟨d,hd,e⟩] at ho
    cases ho
   ·obtain ⟨r,hr,hq⟩ := List.mem_flatten.1 hq
    obtain ⟨x,hx,rfl⟩ := List.mem_map.1 hr
    have := List.any_eq_false.1 hi x hx
    exact this (hasI_iff.2 hq)
theorem head_true {l : List Md} {m : Md} (h : headB l m = true) : onceB (dfNames m) = true ∧ modP (ownHas l) m = mapO (enOf (rlook m) m) m.df := by
 unfold headB at h
 rw [Bool.and_eq_true] at h
 have hn : (kys (dfN m ++ imN m.im)).Nodup := of_decide_eq_true h.2
 have hk : kys (dfN m ++ imN m.im) = kys (dfN m) ++ kys (imN m.im) := by simp [kys]
 have hn1 : (kys (dfN m)).Nodup := by rw [hk] at hn; exact (List.nodup_append.1 hn).1
 refine ⟨decide_eq_true hn1, ?_⟩
 unfold modP
 have ha : (m.im.all fun x => x.f0.all (ownHas l x.f1)) = true := by
  rw [← h.1]
  congr 1
  funext x
  congr 1
  funext s
  exact (ownsR_has l x.f1 s).symm
 rw [impI_eq (by rw [own_keys]; exact hn1),if_pos ⟨ha,by rw [own_keys, ← hk]; exact hn⟩,rlook_look hn]
 rfl
theorem head_false {l : List Md} {m : Md} (h : headB l m = false) : onceB (dfNames m) = false ∨ modP (ownHas l) m = none := by
 cases h1 : onceB (dfNames m) with
 | false => exact .inl rfl
 | true =>
  refine .inr ?_
  have hn1 : (kys (dfN m)).Nodup := of_decide_eq_true h1
  unfold modP
  rw [impI_eq (by rw [own_keys]; exact hn1),if_neg]
  ·rfl
  rintro ⟨ha,hd⟩
  have hb : headB l m = true := by
   unfold headB
   rw [Bool.and_eq_true]
   refine ⟨?_,decide_eq_true ?_⟩
   ·rw [← ha]
    congr 1
    funext x
    congr 1
    funext s
    exact ownsR_has l x.f1 s
   ·rw [own_keys] at hd
    have hk : kys (dfN m ++ imN m.im) = kys (dfN m) ++ kys (imN m.im) := by simp [kys]
    rw [hk]
    exact hd
  rw [hb] at h
  cases h
end Go.Proofs.YtbjddomocggjmaaGreat.Sc
end
