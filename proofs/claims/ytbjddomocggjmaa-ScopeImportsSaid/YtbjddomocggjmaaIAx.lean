/- A module that imports a type: what is resolved, plain. -/
import Derived.Test.YtbjddomocggjmaaIAb
import Derived.Test.YtbjddomocggjmaaIAm
import Derived.Test.YtbjddomocggjmaaIAw
namespace Go.Proofs.Ytbjddomocggjmaa.Sc
open Go.RowKit Go.ChangeShapes Go.WideShapes Go.Proofs.Ytbjddomocggjmaa.Sep
open Go.Proofs.YtbjddomocggjmaaW.PrintWords
variable {B : Nat} {w0 w : World} {R : HP}
def xB (n : ByteArray) : ByteArray := n ++ ⟨#[120]⟩
def oneM (a n : ByteArray) (t : Ty) : Md := ⟨a, false, [], [⟨n, t⟩]⟩
def twoM (im : List Im) (b n : ByteArray) : Md := ⟨b, false, im, [⟨xB n, tyK 11 n⟩]⟩
def imM (a n : ByteArray) : List Im := [⟨[n], a⟩]
theorem toL_app (a b : ByteArray) : (a ++ b).data.toList = a.data.toList ++ b.data.toList := by simp
theorem xB_list (n : ByteArray) : (xB n).data.toList = n.data.toList ++ [120] := toL_app n ⟨#[120]⟩
theorem dotB_list (a n : ByteArray) : (dotB a n).data.toList = a.data.toList ++ 46 :: n.data.toList := by
  unfold dotB
  rw [toL_app, toL_app, List.append_assoc]
  rfl
theorem rest_x : ∀ l : List UInt8, restB l = true → restB (l ++ [120]) = true
  | [], _ => by decide
  | c :: r, h => by
    rw [List.cons_append]
    unfold restB at h ⊢
    by_cases hc : al c = true
    · rw [if_pos hc] at h ⊢
      exact rest_x r h
    · rw [if_neg hc] at h ⊢
      by_cases h45 : c = 45
      · rw [if_pos h45] at h ⊢
        match r, h with
        | d :: r', h =>
          rw [Bool.and_eq_true] at h
          rw [List.cons_append]
          show (al d && restB (d :: (r' ++ [120]))) = true
          rw [h.1, ← List.cons_append, rest_x (d :: r') h.2]
          rfl
      · rw [if_neg h45] at h
        cases h
theorem rest_dot : ∀ l : List UInt8, restB l = true → ∀ c ∈ l, c ≠ 46
  | [], _, c, hc => by cases hc
  | d :: r, h, c, hc => by
    have hr : restB r = true ∧ d ≠ 46 := by
      unfold restB at h
      by_cases hd : al d = true
      · rw [if_pos hd] at h
        exact ⟨h, fun e => by rw [e] at hd; revert hd; decide⟩
      · rw [if_neg hd] at h
        by_cases h45 : d = 45
        · rw [if_pos h45] at h
          refine ⟨?_, fun e => by rw [h45] at e; cases e⟩
          match r, h with
          | e :: r', h => exact (Bool.and_eq_true _ _ ▸ h : _ ∧ _).2
        · rw [if_neg h45] at h
          cases h
    rcases List.mem_cons.1 hc with rfl | hc
    · exact hr.2
    · exact rest_dot r hr.1 c hc
theorem name_whole {s : ByteArray} (h : nameB s = true) : wholeB s.data.toList = true ∧ decide (headI s.data.toList < 97) = true := by
  unfold nameB upperB at h
  rw [Bool.and_eq_true, Bool.and_eq_true] at h
  exact h.1
theorem name_dot {s : ByteArray} (h : nameB s = true) : ∀ c ∈ s.data.toList, c ≠ 46 := by
  have h1 := (name_whole h).1
  revert h1
  generalize s.data.toList = l
  intro h1 c hc
  match l, h1, hc with
  | d :: r, h1, hc =>
    have h2 := (Bool.and_eq_true _ _ ▸ h1 : letterI d.toNat = true ∧ restB r = true)
    rcases List.mem_cons.1 hc with rfl | hc
    · intro e
      rw [e] at h2
      exact absurd h2.1 (by decide)
    · exact rest_dot r h2.2 c hc
theorem key_x (l : List UInt8) : keyL.contains (l ++ [120]) = false := by
  rw [Bool.eq_false_iff]
  intro h
  have h1 := List.contains_iff_mem.1 h
  have h2 : ∀ k ∈ keyL, k.getLast? ≠ some 120 := by decide
  exact h2 _ h1 (by simp)
theorem name_x {n : ByteArray} (h : nameB n = true) : nameB (xB n) = true := by
  obtain ⟨h1, h2⟩ := name_whole h
  unfold nameB upperB keyB
  rw [xB_list, key_x]
  revert h1 h2
  generalize n.data.toList = l
  intro h1 h2
  match l, h1, h2 with
  | d :: r, h1, h2 =>
    have h3 := (Bool.and_eq_true _ _ ▸ h1 : letterI d.toNat = true ∧ restB r = true)
    show (letterI d.toNat && restB (r ++ [120]) && decide (headI (d :: (r ++ [120])) < 97) && !false) = true
    rw [h3.1, rest_x r h3.2, show headI (d :: (r ++ [120])) = headI (d :: r) from rfl, h2]
    rfl
theorem dot_split : ∀ {a b r r' : List UInt8}, (∀ c ∈ a, c ≠ 46) → (∀ c ∈ b, c ≠ 46) → a ++ 46 :: r = b ++ 46 :: r' → a = b ∧ r = r'
  | [], [], r, r', _, _, h => by simpa using h
  | [], y :: b, r, r', _, hb, h => by
    simp only [List.nil_append, List.cons_append, List.cons.injEq] at h
    exact absurd h.1.symm (hb y (by simp))
  | x :: a, [], r, r', ha, _, h => by
    simp only [List.nil_append, List.cons_append, List.cons.injEq] at h
    exact absurd h.1 (ha x (by simp))
  | x :: a, y :: b, r, r', ha, hb, h => by
    simp only [List.cons_append, List.cons.injEq] at h
    obtain ⟨e1, e2⟩ := dot_split (fun c hc => ha c (by simp [hc])) (fun c hc => hb c (by simp [hc])) h.2
    rw [h.1, e1, e2]
    exact ⟨rfl, rfl⟩
theorem con_z : conB 40 zCon = true := by decide
theorem ref_shaped {n : ByteArray} (h : nameB n = true) : shapedB 40 (tyK 11 n) = true := by
  show shapedS (shapedB 39) (tyK 11 n) = true
  rw [sh_H con_z rfl, show nameB (tyK 11 n).n = true from h, Bool.and_true]
  unfold onlyB noS
  simp only [Lib.toList_data]
  simp [tyK, zCon]
theorem mapO_one {α β : Type} (b : α → Option β) (a : α) : mapO b [a] = (b a).map fun x => [x] := by
  unfold mapO
  cases b a <;> rfl
theorem mapO_two {α β : Type} (b : α → Option β) (a c : α) : mapO b [a, c] = (b a).bind fun x => (b c).map fun y => [x, y] := by
  unfold mapO
  rw [mapO_one]
  cases b a <;> cases b c <;> rfl
theorem md_two {im : List Im} {b n : ByteArray} (hb : nameB b = true) (hn : nameB n = true) (hi : im.all imB = true) (hl : im.length ≤ 256) : mdB (twoM im b n) = true := by
  unfold mdB twoM
  simp only [List.all_cons, List.all_nil, Bool.and_true]
  rw [hb, hi, decide_eq_false (show ¬ 256 < im.length by omega), show dfB ⟨xB n, tyK 11 n⟩ = true by unfold dfB; rw [name_x hn, ref_shaped hn]; rfl]
  rfl
theorem md_one {a n : ByteArray} {t : Ty} (ha : nameB a = true) (hn : nameB n = true) (ht : shapedB 40 t = true) : mdB (oneM a n t) = true := by
  unfold mdB oneM
  simp only [List.all_cons, List.all_nil, Bool.and_true]
  rw [ha, show dfB ⟨n, t⟩ = true by unfold dfB; rw [hn, ht]; rfl]
  rfl
theorem im_ok {a n : ByteArray} (ha : nameB a = true) (hn : nameB n = true) : (imM a n).all imB = true := by
  unfold imM imB
  simp only [List.all_cons, List.all_nil, Bool.and_true]
  rw [ha, hn]
  rfl
theorem look_self (k : List UInt8) (v : ByteArray) (l : FM) : lookS (l ++ [(k, v)]) k = some v := by
  unfold lookS
  rw [List.reverse_append]
  simp
theorem look_none {k k' : List UInt8} (v : ByteArray) (h : k' ≠ k) : lookS [(k', v)] k = none := by
  unfold lookS
  simp [h]
section
variable {a b n : ByteArray} {t : Ty}
theorem x_ne (n : ByteArray) : (xB n).data.toList ≠ n.data.toList := by
  rw [xB_list]
  intro h
  have := congrArg List.length h
  simp at this
theorem mod_one (h : ByteArray → ByteArray → Bool) : modP h (oneM a n t) = (typP (lookS [(n.data.toList, dotB a n)]) 40 t).map fun t' => [⟨a, n, false, t'⟩] := by
  show mapO (enOf (lookS (ownP (oneM a n t))) (oneM a n t)) [⟨n, t⟩] = _
  rw [mapO_one]
  show ((typP (lookS [(n.data.toList, dotB a n)]) 40 t).map fun t' => (⟨a, n, false, t'⟩ : En)).map (fun x => [x]) = _
  rw [Option.map_map]
  rfl
theorem typ_ref1 (f : List UInt8 → Option ByteArray) (n : ByteArray) : typP f 40 (tyK 11 n) = (f n.data.toList).map (tyK 11) := by
  show (if (11 : Int) = 11 then _ else _) = _
  rw [if_pos rfl]
  cases hf : f n.data.toList <;> simp [tyK, hf]
theorem mod_two0 (h : ByteArray → ByteArray → Bool) : modP h (twoM [] b n) = none := by
  show mapO (enOf (lookS (ownP (twoM [] b n))) (twoM [] b n)) [⟨xB n, tyK 11 n⟩] = _
  have : enOf (lookS (ownP (twoM [] b n))) (twoM [] b n) ⟨xB n, tyK 11 n⟩ = none := by
    unfold enOf
    rw [show (⟨xB n, tyK 11 n⟩ : Df).t = tyK 11 n from rfl, typ_ref1, show ownP (twoM [] b n) = [((xB n).data.toList, dotB b (xB n))] from rfl, look_none _ (x_ne n)]
    rfl
  exact mapO_none (List.mem_singleton.2 rfl) this
theorem mod_two (h : ByteArray → ByteArray → Bool) : modP h (twoM (imM a n) b n) = if h a n = true then some [⟨b, xB n, false, tyK 11 (dotB a n)⟩] else none := by
  have e : impI h (ownP (twoM (imM a n) b n)) (imM a n) = if h a n = true then some ([((xB n).data.toList, dotB b (xB n))] ++ [(n.data.toList, dotB a n)]) else none := by
    show (impN h a [((xB n).data.toList, dotB b (xB n))] [n]).bind (fun fm' => impI h fm' []) = _
    show ((if ((lookS [((xB n).data.toList, dotB b (xB n))] n.data.toList).isSome || !h a n) = true then none else impN h a ([((xB n).data.toList, dotB b (xB n))] ++ [(n.data.toList, dotB a n)]) [])).bind (fun fm' => impI h fm' []) = _
    rw [look_none _ (x_ne n)]
    cases h a n <;> rfl
  show (impI h (ownP (twoM (imM a n) b n)) (imM a n)).bind _ = _
  rw [e]
  cases h a n with
  | false => rfl
  | true =>
    rw [if_pos rfl, if_pos rfl]
    show mapO (enOf (lookS ([((xB n).data.toList, dotB b (xB n))] ++ [(n.data.toList, dotB a n)])) (twoM (imM a n) b n)) [⟨xB n, tyK 11 n⟩] = _
    have : enOf (lookS ([((xB n).data.toList, dotB b (xB n))] ++ [(n.data.toList, dotB a n)])) (twoM (imM a n) b n) ⟨xB n, tyK 11 n⟩ = some ⟨b, xB n, false, tyK 11 (dotB a n)⟩ := by
      unfold enOf
      rw [show (⟨xB n, tyK 11 n⟩ : Df).t = tyK 11 n from rfl, typ_ref1, look_self]
      rfl
    rw [mapO_one, this]
    rfl
theorem fin_two (ha : nameB a = true) (hb : nameB b = true) (hab : a.data.toList ≠ b.data.toList) (t' : Ty) : finB [⟨a, n, false, t'⟩, ⟨b, xB n, false, tyK 11 (dotB a n)⟩] = finB [⟨a, n, false, t'⟩] := by
  have hne : enNm ⟨a, n, false, t'⟩ ≠ enNm ⟨b, xB n, false, tyK 11 (dotB a n)⟩ := by
    unfold enNm
    show (dotB a n).data.toList ≠ (dotB b (xB n)).data.toList
    rw [dotB_list, dotB_list]
    intro h
    exact hab (dot_split (name_dot ha) (name_dot hb) h).1
  rw [Bool.eq_iff_iff, finB_iff (by simp [hne]), finB_iff (by simp)]
  have hK2 : ∀ K : List UInt8 → Bool, finT K 40 (tyK 11 (dotB a n)) = K (enNm ⟨a, n, false, t'⟩) := fun K => rfl
  constructor
  · intro hf K hK x hx
    rw [List.mem_singleton.1 hx]
    cases hk : K (enNm ⟨a, n, false, t'⟩) with
    | true => rfl
    | false =>
      rw [← hk]
      have h1 := hf (fun s => if s = enNm ⟨b, xB n, false, tyK 11 (dotB a n)⟩ then false else K s) (fun y hy => by
        rcases List.mem_cons.1 hy with rfl | hy
        · intro hy2
          show (if enNm ⟨a, n, false, t'⟩ = enNm ⟨b, xB n, false, tyK 11 (dotB a n)⟩ then false else K (enNm ⟨a, n, false, t'⟩)) = true
          rw [if_neg hne]
          exact hK _ (List.mem_singleton.2 rfl) (finT_mono (fun s hs => by
            show K s = true
            by_cases e : s = enNm ⟨b, xB n, false, tyK 11 (dotB a n)⟩
            · rw [if_pos e] at hs; cases hs
            · rwa [if_neg e] at hs) _ _ hy2)
        · rw [List.mem_singleton.1 hy]
          intro hy2
          rw [show (⟨b, xB n, false, tyK 11 (dotB a n)⟩ : En).t = tyK 11 (dotB a n) from rfl, hK2] at hy2
          rw [if_neg hne, hk] at hy2
          cases hy2) ⟨a, n, false, t'⟩ (by simp)
      rwa [if_neg hne] at h1
  · intro hf K hK x hx
    have h1 := hf K (fun y hy hy2 => by
      rw [List.mem_singleton.1 hy] at hy2 ⊢
      exact hK _ (by simp) hy2) ⟨a, n, false, t'⟩ (by simp)
    rcases List.mem_cons.1 hx with rfl | hx
    · exact h1
    · rw [List.mem_singleton.1 hx]
      exact hK _ (by simp) (by rw [show (⟨b, xB n, false, tyK 11 (dotB a n)⟩ : En).t = tyK 11 (dotB a n) from rfl, hK2]; exact h1)
theorem bad_two (ha : nameB a = true) (hb : nameB b = true) (hn : nameB n = true) (ht : shapedB 40 t = true) {l : List Md} (h : ∀ m ∈ l, m = oneM a n t ∨ m = twoM (imM a n) b n ∨ m = twoM [] b n) (hl : l.length ≤ 256) : badB l = false :=
  bad_false.2 ⟨hl, fun m hm => by
    rcases h m hm with rfl | rfl | rfl
    · exact md_one ha hn ht
    · exact md_two hb hn (im_ok ha hn) (show 1 ≤ 256 by decide)
    · exact md_two hb hn rfl (show 0 ≤ 256 by decide)⟩
theorem dup_one : dupB [oneM a n t] = false := dup_false.2 ⟨by unfold mdNames oneM onceB kys; simp, fun m hm => by rw [List.mem_singleton.1 hm]; unfold dfNames oneM onceB kys; simp⟩
theorem dup_two {im : List Im} : dupB [twoM im b n] = false := dup_false.2 ⟨by unfold mdNames twoM onceB kys; simp, fun m hm => by rw [List.mem_singleton.1 hm]; unfold dfNames twoM onceB kys; simp⟩
theorem dup_both (hab : a.data.toList ≠ b.data.toList) {im : List Im} : dupB [oneM a n t, twoM im b n] = false := dup_false.2 ⟨by unfold mdNames oneM twoM onceB kys; simpa using hab, fun m hm => by
  rcases List.mem_cons.1 hm with rfl | hm
  · unfold dfNames oneM onceB kys; simp
  · rw [List.mem_singleton.1 hm]; unfold dfNames twoM onceB kys; simp⟩
theorem res_one (ha : nameB a = true) (hb : nameB b = true) (hn : nameB n = true) (ht : shapedB 40 t = true) : resP [oneM a n t] = match typP (lookS [(n.data.toList, dotB a n)]) 40 t with
    | none => (7, [])
    | some t' => if finB [⟨a, n, false, t'⟩] = true then (0, [⟨a, n, false, t'⟩]) else (9, []) := by
  unfold resP
  rw [bad_two ha hb hn ht (by simp) (by simp), if_neg (by simp), dup_one, if_neg (by simp)]
  have e : allP [oneM a n t] = (typP (lookS [(n.data.toList, dotB a n)]) 40 t).map fun t' => [⟨a, n, false, t'⟩] := by
    unfold allP
    rw [mapO_one, mod_one]
    cases typP (lookS [(n.data.toList, dotB a n)]) 40 t <;> rfl
  rw [e]
  cases typP (lookS [(n.data.toList, dotB a n)]) 40 t <;> rfl
theorem has_one {m : Md} : ownHas [oneM a n t, m] a n = true := by
  unfold ownHas oneM
  simp [kys, dfNames]
theorem res_both (ha : nameB a = true) (hb : nameB b = true) (hn : nameB n = true) (hab : a.data.toList ≠ b.data.toList) (ht : shapedB 40 t = true) : resP [oneM a n t, twoM (imM a n) b n] = match typP (lookS [(n.data.toList, dotB a n)]) 40 t with
    | none => (7, [])
    | some t' => if finB [⟨a, n, false, t'⟩] = true then (0, [⟨a, n, false, t'⟩, ⟨b, xB n, false, tyK 11 (dotB a n)⟩]) else (9, []) := by
  unfold resP
  rw [bad_two ha hb hn ht (by simp) (by simp), if_neg (by simp), dup_both hab, if_neg (by simp)]
  have e : allP [oneM a n t, twoM (imM a n) b n] = (typP (lookS [(n.data.toList, dotB a n)]) 40 t).map fun t' => [⟨a, n, false, t'⟩, ⟨b, xB n, false, tyK 11 (dotB a n)⟩] := by
    unfold allP
    rw [mapO_two, mod_one, mod_two, if_pos (has_one)]
    cases typP (lookS [(n.data.toList, dotB a n)]) 40 t <;> rfl
  rw [e]
  cases typP (lookS [(n.data.toList, dotB a n)]) 40 t with
  | none => rfl
  | some t' =>
    show (if finB [⟨a, n, false, t'⟩, ⟨b, xB n, false, tyK 11 (dotB a n)⟩] = true then _ else _) = _
    rw [fin_two ha hb hab]
theorem res_two (ha : nameB a = true) (hb : nameB b = true) (hn : nameB n = true) (hab : a.data.toList ≠ b.data.toList) (ht : shapedB 40 t = true) : (resP [twoM (imM a n) b n]).1 = 7 := by
  unfold resP
  rw [bad_two ha hb hn ht (by simp) (by simp), if_neg (by simp), dup_two, if_neg (by simp)]
  have hf : ownHas [twoM (imM a n) b n] a n = false := by
    unfold ownHas twoM
    have : ¬ b.data = a.data := fun h => hab (by rw [h])
    simp [this]
  have e : allP [twoM (imM a n) b n] = none := by
    unfold allP
    rw [mapO_none (List.mem_singleton.2 rfl) (by rw [mod_two, hf]; rfl)]
    rfl
  rw [e]
theorem res_without (ha : nameB a = true) (hb : nameB b = true) (hn : nameB n = true) (hab : a.data.toList ≠ b.data.toList) (ht : shapedB 40 t = true) : (resP [oneM a n t, twoM [] b n]).1 = 7 := by
  rcases res_none (l := [oneM a n t, twoM [] b n]) (m := twoM [] b n) (fun h => mod_two0 h) (by simp) with h | h
  · exact h
  · exfalso
    unfold resP at h
    rw [bad_two ha hb hn ht (by simp) (by simp), if_neg (by simp), dup_both hab, if_neg (by simp)] at h
    revert h
    cases allP [oneM a n t, twoM [] b n] with
    | none => simp
    | some y => dsimp only; cases finB y <;> simp
/-- What the law asks. -/
theorem imp_plain (ha : nameB a = true) (hb : nameB b = true) (hn : nameB n = true) (hab : a.data.toList ≠ b.data.toList) (ht : shapedB 40 t = true) : (resP [oneM a n t, twoM (imM a n) b n]).1 = (resP [oneM a n t]).1 ∧
    ((resP [oneM a n t]).1 = 0 → (resP [oneM a n t]).2.length = 1 ∧ ∃ t', (resP [oneM a n t, twoM (imM a n) b n]).2 = [⟨a, n, false, t'⟩, ⟨b, xB n, false, tyK 11 (dotB a n)⟩]) := by
  rw [res_one ha hb hn ht, res_both ha hb hn hab ht]
  cases typP (lookS [(n.data.toList, dotB a n)]) 40 t with
  | none => exact ⟨rfl, fun h => (by cases h)⟩
  | some t' =>
    dsimp only
    cases finB [⟨a, n, false, t'⟩] with
    | false => exact ⟨rfl, fun h => (by cases h)⟩
    | true => exact ⟨rfl, fun _ => ⟨rfl, t', rfl⟩⟩
end
end Go.Proofs.Ytbjddomocggjmaa.Sc
