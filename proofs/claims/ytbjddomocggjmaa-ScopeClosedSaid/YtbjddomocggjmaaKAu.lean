/- ScopeClosed, plain: modules the other way round; the names of what is resolved. -/
import Derived.Test.YtbjddomocggjmaaKAl
import Derived.Test.YtbjddomocggjmaaKAs
import Derived.Test.YtbjddomocggjmaaKAt
namespace Go.Proofs.Ytbjddomocggjmaa.Sc
open Go.RowKit Go.ChangeShapes Go.WideShapes Go.Proofs.Ytbjddomocggjmaa.Sep
open Go.Proofs.YtbjddomocggjmaaW.PrintWords
variable {B : Nat} {w0 w : World} {R : HP}
theorem mapO_cons {α β : Type} (b : α → Option β) (a : α) (l : List α) : mapO b (a :: l) = match b a, mapO b l with | some x, some y => some (x :: y) | _, _ => none := rfl
theorem mapO_rev {α β : Type} (b : α → Option β) : ∀ l : List α, mapO b l.reverse = (mapO b l).map List.reverse
  | [] => rfl
  | a :: l => by
    rw [List.reverse_cons, mapO_snoc, mapO_rev b l, mapO_cons]
    cases b a <;> cases mapO b l <;> simp
theorem mapO_map {α β γ : Type} {b : α → Option β} {g : β → γ} {f : α → γ} (hb : ∀ a x, b a = some x → g x = f a) : ∀ {l : List α} {y : List β}, mapO b l = some y → y.map g = l.map f
  | [], y, h => by cases h; rfl
  | c :: l, y, h => by
    unfold mapO at h
    cases h1 : b c with
    | none => rw [h1] at h; cases h
    | some x =>
      cases h2 : mapO b l with
      | none => rw [h1, h2] at h; cases h
      | some ys =>
        rw [h1, h2] at h
        cases h
        rw [List.map_cons, List.map_cons, mapO_map hb h2, hb c x h1]
/-- The names of all types of modules, in order. -/
def nmsP (l : List Md) : List (ByteArray × ByteArray) := (l.map fun m => m.df.map fun d => (m.n, d.n)).flatten
def nmP (x : En) : ByteArray × ByteArray := (x.m, x.n)
theorem enOf_nm {f : List UInt8 → Option ByteArray} {m : Md} {d : Df} {x : En} (h : enOf f m d = some x) : nmP x = (m.n, d.n) := by
  unfold enOf at h
  cases h1 : typP f 40 d.t with
  | none => rw [h1] at h; cases h
  | some t => rw [h1] at h; cases h; rfl
theorem modP_nm {h : ByteArray → ByteArray → Bool} {m : Md} {y : List En} (e : modP h m = some y) : y.map nmP = m.df.map fun d => (m.n, d.n) := by
  unfold modP at e
  cases h1 : impI h (ownP m) m.im with
  | none => rw [h1] at e; cases e
  | some fm => rw [h1] at e; exact mapO_map (fun a x hx => enOf_nm hx) e
theorem all_parts {l : List Md} {y : List En} (h : allP l = some y) : ∃ z, mapO (modP (ownHas l)) l = some z ∧ y = z.flatten := by
  unfold allP at h
  cases h1 : mapO (modP (ownHas l)) l with
  | none => rw [h1] at h; cases h
  | some z => rw [h1] at h; cases h; exact ⟨z, rfl, rfl⟩
theorem all_nm {l : List Md} {y : List En} (h : allP l = some y) : y.map nmP = nmsP l := by
  obtain ⟨z, hz, rfl⟩ := all_parts h
  rw [List.map_flatten, mapO_map (fun a x hx => modP_nm hx) hz]
  rfl
theorem kys_rev (l : List ByteArray) : kys l.reverse = (kys l).reverse := List.map_reverse.symm ▸ rfl
theorem once_rev (l : List ByteArray) : onceB l.reverse = onceB l := by
  unfold onceB
  rw [kys_rev]
  exact decide_eq_decide.2 (List.reverse_perm _).nodup_iff
theorem bad_rev (l : List Md) : badB l.reverse = badB l := by
  unfold badB
  rw [List.length_reverse, List.any_reverse]
theorem dup_rev (l : List Md) : dupB l.reverse = dupB l := by
  unfold dupB
  rw [List.any_reverse, mdNames, List.map_reverse, once_rev]
  rfl
theorem find_one {l : List Md} (hn : (kys (mdNames l)).Nodup) {fr : List UInt8} {m : Md} (hm : m ∈ l) (he : m.n.data.toList = fr) : l.find? (fun m => m.n.data.toList == fr) = some m := by
  induction l with
  | nil => cases hm
  | cons c l ih =>
    have hn' : c.n.data.toList ∉ kys (mdNames l) ∧ (kys (mdNames l)).Nodup := List.nodup_cons.1 hn
    rcases List.mem_cons.1 hm with rfl | hm
    · rw [List.find?_cons_of_pos (by simp [he])]
    · rw [List.find?_cons_of_neg, ih hn'.2 hm]
      intro hc
      have hc' : c.n.data.toList = fr := by simpa using hc
      refine hn'.1 ?_
      rw [hc', ← he]
      exact List.mem_map.2 ⟨m.n, List.mem_map.2 ⟨m, hm, rfl⟩, rfl⟩
theorem own_iff {l : List Md} (hn : (kys (mdNames l)).Nodup) {fr s : ByteArray} : ownHas l fr s = true ↔ ∃ m ∈ l, m.n.data.toList = fr.data.toList ∧ ∃ d ∈ m.df, d.n.data.toList = s.data.toList := by
  have hk : ∀ m : Md, ((kys (dfNames m)).contains s.data.toList = true ↔ ∃ d ∈ m.df, d.n.data.toList = s.data.toList) := fun m => by
    rw [List.contains_iff_mem, kys, dfNames, List.map_map, List.mem_map]
    rfl
  unfold ownHas
  constructor
  · intro h
    cases hf : l.find? (fun m => m.n.data.toList == fr.data.toList) with
    | none => rw [hf] at h; cases h
    | some m =>
      rw [hf] at h
      exact ⟨m, List.mem_of_find?_eq_some hf, by simpa using List.find?_some hf, (hk m).1 h⟩
  · rintro ⟨m, hm, he, hd⟩
    rw [find_one hn hm he]
    exact (hk m).2 hd
theorem own_rev {l : List Md} (hn : (kys (mdNames l)).Nodup) : ownHas l.reverse = ownHas l := by
  funext fr s
  rw [Bool.eq_iff_iff, own_iff hn, own_iff (by rw [mdNames, List.map_reverse, kys_rev]; exact (List.reverse_perm _).nodup_iff.2 hn)]
  simp only [List.mem_reverse]
theorem all_rev {l : List Md} (hn : (kys (mdNames l)).Nodup) : allP l.reverse = (mapO (modP (ownHas l)) l).map fun z => z.reverse.flatten := by
  unfold allP
  rw [own_rev hn, mapO_rev, Option.map_map]
  rfl
theorem nms_nodup {l : List Md} (h1 : badB l = false) (h2 : dupB l = false) : ((nmsP l).map fun p => (dotB p.1 p.2).data.toList).Nodup := by
  obtain ⟨-, h3⟩ := bad_false.1 h1
  obtain ⟨h4, h5⟩ := dup_false.1 h2
  have h6 : (kys (mdNames l)).Nodup := of_decide_eq_true h4
  have hnm : ∀ m ∈ l, nameB m.n = true ∧ ∀ d ∈ m.df, nameB d.n = true := fun m hm => by
    have h := h3 m hm
    unfold mdB at h
    simp only [Bool.and_eq_true, List.all_eq_true] at h
    refine ⟨h.1.1.1, fun d hd => ?_⟩
    have := h.2.2 d hd
    unfold dfB at this
    rw [Bool.and_eq_true] at this
    exact this.1
  unfold nmsP
  rw [List.map_flatten, List.map_map]
  unfold List.Nodup
  rw [List.pairwise_flatten]
  constructor
  · intro r hr
    obtain ⟨m, hm, rfl⟩ := List.mem_map.1 hr
    have hd : (kys (dfNames m)).Nodup := of_decide_eq_true (h5 m hm)
    unfold kys dfNames List.Nodup at hd
    rw [List.map_map, List.pairwise_map] at hd
    show List.Pairwise _ (List.map _ (List.map _ m.df))
    rw [List.map_map, List.pairwise_map]
    refine hd.imp_of_mem fun {a b} ha hb hab he => hab ?_
    have he' : (dotB m.n a.n).data.toList = (dotB m.n b.n).data.toList := he
    rw [dotB_list, dotB_list] at he'
    exact (dot_split (name_dot (hnm m hm).1) (name_dot (hnm m hm).1) he').2
  · unfold kys mdNames List.Nodup at h6
    rw [List.map_map, List.pairwise_map] at h6
    rw [List.pairwise_map]
    refine h6.imp_of_mem fun {a b} ha hb hab x hx y hy he => hab ?_
    have hx' : ∃ d ∈ a.df, (dotB a.n d.n).data.toList = x := by simpa using hx
    have hy' : ∃ d ∈ b.df, (dotB b.n d.n).data.toList = y := by simpa using hy
    obtain ⟨d, hd, rfl⟩ := hx'
    obtain ⟨d', hd', rfl⟩ := hy'
    rw [dotB_list, dotB_list] at he
    exact (dot_split (name_dot (hnm a ha).1) (name_dot (hnm b hb).1) he).1
theorem all_nodup {l : List Md} {y : List En} (h1 : badB l = false) (h2 : dupB l = false) (h : allP l = some y) : (y.map enNm).Nodup := by
  have e : y.map enNm = (nmsP l).map fun p => (dotB p.1 p.2).data.toList := by
    rw [← all_nm h, List.map_map]
    rfl
  rw [e]
  exact nms_nodup h1 h2
theorem fin_perm {y y' : List En} (hp : y'.Perm y) (hn : (y.map enNm).Nodup) : finB y' = finB y := by
  have hn' : (y'.map enNm).Nodup := (hp.map enNm).nodup_iff.2 hn
  rw [Bool.eq_iff_iff, finB_iff hn, finB_iff hn', finS_perm fun x => hp.mem_iff]
/-- Modules the other way round. -/
theorem res_rev (l : List Md) : (resP l.reverse).1 = (resP l).1 ∧ (resP l.reverse).2.Perm (resP l).2 := by
  cases h1 : badB l with
  | true => rw [res_bad h1, res_bad ((bad_rev l).trans h1)]; exact ⟨rfl, List.Perm.refl _⟩
  | false =>
    cases h2 : dupB l with
    | true => rw [res_dup2 h1 h2, res_dup2 ((bad_rev l).trans h1) ((dup_rev l).trans h2)]; exact ⟨rfl, List.Perm.refl _⟩
    | false =>
      rw [res_all h1 h2, res_all ((bad_rev l).trans h1) ((dup_rev l).trans h2), all_rev (of_decide_eq_true (dup_false.1 h2).1)]
      cases h3 : mapO (modP (ownHas l)) l with
      | none =>
        have e : allP l = none := by unfold allP; rw [h3]; rfl
        rw [e]
        exact ⟨rfl, List.Perm.refl _⟩
      | some z =>
        have e : allP l = some z.flatten := by unfold allP; rw [h3]; rfl
        rw [e]
        have hp : z.reverse.flatten.Perm z.flatten := (List.reverse_perm z).flatten
        have hf := fin_perm hp (all_nodup h1 h2 e)
        show (if finB z.reverse.flatten = true then _ else _ : Int × List En).1 = (if finB z.flatten = true then _ else _ : Int × List En).1 ∧ List.Perm (if finB z.reverse.flatten = true then _ else _ : Int × List En).2 (if finB z.flatten = true then _ else _ : Int × List En).2
        rw [hf]
        cases finB z.flatten with
        | true => exact ⟨rfl, hp⟩
        | false => exact ⟨rfl, List.Perm.refl _⟩
theorem res_nil {l : List Md} (h : (resP l).1 ≠ 0) : (resP l).2 = [] := by
  unfold resP at h ⊢
  cases h1 : badB l with
  | true => rw [if_pos rfl]
  | false =>
    rw [h1, if_neg (by simp)] at h
    rw [if_neg (by simp)]
    cases h2 : dupB l with
    | true => rw [if_pos rfl]
    | false =>
      rw [h2, if_neg (by simp)] at h
      rw [if_neg (by simp)]
      cases h3 : allP l with
      | none => rfl
      | some y =>
        rw [h3] at h
        dsimp only at h ⊢
        cases h4 : finB y with
        | false => rfl
        | true => rw [h4, if_pos rfl] at h; exact absurd rfl h
theorem typ_refs {f : List UInt8 → Option ByteArray} {P : ByteArray → Prop} (hf : ∀ k v, f k = some v → P v) : ∀ (n : Nat) (t r : Ty), typP f n t = some r → refsP P n r
  | 0, t, r, h => by cases h
  | n + 1, t, r, h => by
    have hpt : ∀ {a z : List (Pt Ty)}, partsP (typP f n) a = some z → ∀ p ∈ z, refsP P n p.t := fun {a z} hz p hp => by
      obtain ⟨c, hc, e⟩ := mapO_mem hz p hp
      unfold partP at e
      cases h1 : typP f n c.t with
      | none => rw [h1] at e; cases e
      | some q => rw [h1] at e; cases e; exact typ_refs hf n c.t q h1
    unfold typP at h
    by_cases k : t.k = 11
    · rw [if_pos k] at h
      cases h1 : f t.n.data.toList with
      | none => rw [h1] at h; cases h
      | some s => rw [h1] at h; cases h; exact ⟨fun _ => hf _ _ h1, fun hk => absurd k hk⟩
    · rw [if_neg k] at h
      split at h
      · unfold elsP at h
        cases h1 : partsP (typP f n) t.ps with
        | none => rw [h1] at h; cases h
        | some ps =>
          cases h2 : partsP (typP f n) t.ad with
          | none => rw [h1, h2] at h; cases h
          | some ad =>
            cases h3 : mapO (typP f n) t.el with
            | none => rw [h1, h2, h3] at h; cases h
            | some el =>
              rw [h1, h2, h3] at h
              cases h
              refine ⟨fun hk => absurd hk k, fun _ => ⟨hpt h1, hpt h2, fun x hx => ?_⟩⟩
              obtain ⟨c, hc, e⟩ := mapO_mem h3 x hx
              exact typ_refs hf n c x e
      · cases h
/-- Every name in such a map stands for a type of a module. -/
def Named (l : List Md) (v : ByteArray) : Prop := ∃ p ∈ nmsP l, (dotB p.1 p.2).data.toList = v.data.toList
theorem nms_mem {l : List Md} {m : Md} {d : Df} (hm : m ∈ l) (hd : d ∈ m.df) : (m.n, d.n) ∈ nmsP l := List.mem_flatten.2 ⟨_, List.mem_map.2 ⟨m, hm, rfl⟩, List.mem_map.2 ⟨d, hd, rfl⟩⟩
theorem impN_named {l : List Md} (hn : (kys (mdNames l)).Nodup) {fr : ByteArray} : ∀ {s : List ByteArray} {fm r : FM}, (∀ p ∈ fm, Named l p.2) → impN (ownHas l) fr fm s = some r → ∀ p ∈ r, Named l p.2
  | [], fm, r, hs, e => by cases e; exact hs
  | s :: k, fm, r, hs, e => by
    unfold impN at e
    split at e
    · cases e
    · rename_i hc
      refine impN_named hn (fun p hp => ?_) e
      rcases List.mem_append.1 hp with hp | hp
      · exact hs p hp
      · rw [List.mem_singleton.1 hp]
        have ho : ownHas l fr s = true := by
          cases h : ownHas l fr s with
          | true => rfl
          | false => rw [h] at hc; simp at hc
        obtain ⟨m, hm, h1, d, hd, h2⟩ := (own_iff hn).1 ho
        refine ⟨_, nms_mem hm hd, ?_⟩
        show (dotB m.n d.n).data.toList = (dotB fr s).data.toList
        rw [dotB_list, dotB_list, h1, h2]
theorem impI_named {l : List Md} (hn : (kys (mdNames l)).Nodup) : ∀ {s : List Im} {fm r : FM}, (∀ p ∈ fm, Named l p.2) → impI (ownHas l) fm s = some r → ∀ p ∈ r, Named l p.2
  | [], fm, r, hs, e => by cases e; exact hs
  | x :: s, fm, r, hs, e => by
    unfold impI at e
    cases h1 : impN (ownHas l) x.f1 fm x.f0 with
    | none => rw [h1] at e; cases e
    | some fm' => rw [h1] at e; exact impI_named hn (impN_named hn hs h1) e
theorem look_in {fm : FM} {k : List UInt8} {v : ByteArray} (h : lookS fm k = some v) : ∃ p ∈ fm, p.2 = v := by
  unfold lookS at h
  cases hf : fm.reverse.find? fun p => p.1 == k with
  | none => rw [hf] at h; cases h
  | some p => rw [hf] at h; cases h; exact ⟨p, List.mem_reverse.1 (List.mem_of_find?_eq_some hf), rfl⟩
theorem all_refs {l : List Md} {y : List En} (h2 : dupB l = false) (h : allP l = some y) : ∀ x ∈ y, refsP (hasN y) 40 x.t := by
  have hn : (kys (mdNames l)).Nodup := of_decide_eq_true (dup_false.1 h2).1
  have hN : ∀ v, Named l v → hasN y v := fun v ⟨p, hp, e⟩ => by
    rw [← all_nm h] at hp
    obtain ⟨x, hx, rfl⟩ := List.mem_map.1 hp
    refine ⟨x, hx, ?_⟩
    unfold nmB
    rw [Lib.toList_data, Lib.toList_data]
    exact beq_iff_eq.2 e
  obtain ⟨z, hz, rfl⟩ := all_parts h
  intro x hx
  obtain ⟨r, hr, hxr⟩ := List.mem_flatten.1 hx
  obtain ⟨m, hm, e⟩ := mapO_mem hz r hr
  unfold modP at e
  cases h1 : impI (ownHas l) (ownP m) m.im with
  | none => rw [h1] at e; cases e
  | some fm =>
    rw [h1] at e
    obtain ⟨d, hd, e⟩ := mapO_mem e x hxr
    have hfm := impI_named hn (fun p hp => by
      obtain ⟨d, hd, rfl⟩ := List.mem_map.1 hp
      exact ⟨_, nms_mem hm hd, rfl⟩) h1
    unfold enOf at e
    cases h3 : typP (lookS fm) 40 d.t with
    | none => rw [h3] at e; cases e
    | some t =>
      rw [h3] at e
      cases e
      exact typ_refs (fun k v hv => by obtain ⟨p, hp, rfl⟩ := look_in hv; exact hN _ (hfm p hp)) 40 d.t t h3
/-- What ScopeClosed asks of what is resolved. -/
structure Closed (l : List Md) (y y' : List En) : Prop where
  nm : y.map nmP = nmsP l
  refs : ∀ x ∈ y, refsP (hasN y) 40 x.t
  perm : y'.Perm y
  nodup : (y.map enNm).Nodup
  fin : finB y = true
theorem res_closed {l : List Md} (h : (resP l).1 = 0) : Closed l (resP l).2 (resP l.reverse).2 := by
  obtain ⟨h1, h2, y, h3, h4, h5⟩ := res_ok h
  have hp := (res_rev l).2
  rw [h5] at hp ⊢
  exact ⟨all_nm h3, all_refs h2 h3, hp, all_nodup h1 h2 h3, h4⟩
theorem Closed.at {l : List Md} {y y' : List En} (h : Closed l y y') {i k : Nat} {m : Md} {d : Df} (hm : l[i]? = some m) (hd : m.df[k]? = some d) : ∃ x, y[(nmsP (l.take i)).length + k]? = some x ∧ x.m = m.n ∧ x.n = d.n := by
  have e : (y.map nmP)[(nmsP (l.take i)).length + k]? = some (m.n, d.n) := by
    rw [h.nm]
    have hi := (List.getElem?_eq_some_iff.1 hm).1
    have hl : l = l.take i ++ m :: l.drop (i + 1) := by
      have := List.drop_eq_getElem_cons hi
      rw [(List.getElem?_eq_some_iff.1 hm).2] at this
      rw [← this, List.take_append_drop]
    have e1 : nmsP l = nmsP (l.take i) ++ nmsP (m :: l.drop (i + 1)) := by
      rw [← show nmsP (l.take i ++ m :: l.drop (i + 1)) = nmsP (l.take i) ++ nmsP (m :: l.drop (i + 1)) by unfold nmsP; rw [List.map_append, List.flatten_append], ← hl]
    rw [e1, List.getElem?_append_right (Nat.le_add_right _ _), Nat.add_sub_cancel_left]
    show ((m.df.map fun d => (m.n, d.n)) ++ nmsP (l.drop (i + 1)))[k]? = _
    have hk := (List.getElem?_eq_some_iff.1 hd).1
    rw [List.getElem?_append_left (by rw [List.length_map]; exact hk), List.getElem?_map, hd]
    rfl
  rw [List.getElem?_map] at e
  cases hx : y[(nmsP (l.take i)).length + k]? with
  | none => rw [hx] at e; cases e
  | some x =>
    rw [hx] at e
    have e2 : (x.m, x.n) = (m.n, d.n) := Option.some.inj e
    exact ⟨x, rfl, (Prod.mk.inj e2).1, (Prod.mk.inj e2).2⟩
theorem nms_next {l : List Md} {i : Nat} {m : Md} (hm : l[i]? = some m) : (nmsP (l.take (i + 1))).length = (nmsP (l.take i)).length + m.df.length := by
  rw [List.take_add_one, hm]
  unfold nmsP
  rw [List.map_append, List.flatten_append, List.length_append]
  simp
/-- Where an entry stands among those the other way round. -/
theorem Closed.place {l : List Md} {y y' : List En} (h : Closed l y y') {x : En} (hx : x ∈ y) {j : Int} (hj : Place (nmB (dotB x.m x.n)) y' j) : 0 ≤ j ∧ j < y'.length ∧ y'[j.toNat]? = some x := by
  rcases hj with ⟨k, x', rfl, hk, hp, hb⟩ | ⟨rfl, hb⟩
  · have e : enNm x' = enNm x := by
      unfold nmB at hp
      rw [Lib.toList_data, Lib.toList_data] at hp
      exact beq_iff_eq.1 hp
    have hx' : x' ∈ y := h.perm.mem_iff.1 (List.mem_of_getElem? hk)
    have hxx : x' = x := by
      obtain ⟨i, hi⟩ := List.getElem?_of_mem hx
      obtain ⟨i', hi'⟩ := List.getElem?_of_mem hx'
      have h1 : (y.map enNm)[i]? = some (enNm x) := by rw [List.getElem?_map, hi]; rfl
      have h2 : (y.map enNm)[i']? = some (enNm x) := by rw [List.getElem?_map, hi', Option.map_some, e]
      have hlt : i < (y.map enNm).length := (List.getElem?_eq_some_iff.1 h1).1
      have := (List.getElem?_inj hlt h.nodup).1 (h1.trans h2.symm)
      rw [this, hi'] at hi
      exact Option.some.inj hi
    have hlt := (List.getElem?_eq_some_iff.1 hk).1
    refine ⟨by omega, by omega, ?_⟩
    rw [Int.toNat_natCast, hk, hxx]
  · have := hb x (h.perm.mem_iff.2 hx)
    unfold nmB at this
    simp at this
theorem all_o {l : List Md} {y : List En} (h1 : badB l = false) (ho : ∀ m ∈ l, oMd m) (h : allP l = some y) : ∀ x ∈ y, oS x.m ∧ oS x.n ∧ Dp 40 x.t := by
  obtain ⟨-, h3⟩ := bad_false.1 h1
  obtain ⟨z, hz, rfl⟩ := all_parts h
  intro x hx
  obtain ⟨r, hr, hxr⟩ := List.mem_flatten.1 hx
  obtain ⟨m, hm, e⟩ := mapO_mem hz r hr
  unfold modP at e
  cases h1 : impI (ownHas l) (ownP m) m.im with
  | none => rw [h1] at e; cases e
  | some fm =>
    rw [h1] at e
    obtain ⟨d, hd, e⟩ := mapO_mem e x hxr
    have hom := ho m hm
    unfold enOf at e
    cases h4 : typP (lookS fm) 40 d.t with
    | none => rw [h4] at e; cases e
    | some t =>
      rw [h4] at e
      cases e
      exact ⟨hom.1, (hom.2.2.2 d hd).1, dp_typ (look_sized (impI_sized hom.2.1.2 (own_sized hom) h1)) 40 d.t t h4 ((mdB_has (h3 m hm)).2.2.2 d hd) (hom.2.2.2 d hd).2⟩
theorem nms_short : ∀ {l : List Md}, (∀ m ∈ l, m.df.length ≤ 256) → (nmsP l).length ≤ l.length * 256
  | [], _ => by simp [nmsP]
  | m :: l, h => by
    have h1 := nms_short (l := l) fun x hx => h x (by simp [hx])
    have h2 := h m (by simp)
    show ((m.df.map fun d => (m.n, d.n)) ++ nmsP l).length ≤ _
    rw [List.length_append, List.length_map, List.length_cons]
    omega
theorem res_o {l : List Md} (ho : ∀ m ∈ l, oMd m) : (∀ x ∈ (resP l).2, oS x.m ∧ oS x.n ∧ Dp 40 x.t) ∧ (resP l).2.length ≤ 65536 := by
  by_cases h : (resP l).1 = 0
  · obtain ⟨h1, h2, y, h3, h4, h5⟩ := res_ok h
    rw [h5]
    refine ⟨all_o h1 ho h3, ?_⟩
    obtain ⟨h6, h7⟩ := bad_false.1 h1
    have := nms_short (l := l) fun m hm => (mdB_has (h7 m hm)).2.1
    rw [← all_nm h3, List.length_map] at this
    omega
  · rw [res_nil h]
    exact ⟨fun x hx => (by cases hx), by simp⟩
end Go.Proofs.Ytbjddomocggjmaa.Sc
