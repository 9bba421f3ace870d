/- The reference of 20, plain: Find, names. -/
import Derived.Test.YtbjddomocggjmaaFcH
import Derived.Test.YtbjddomocggjmaaFcC
namespace Go.Proofs.Ytbjddomocggjmaa.Fc
open Go.RowKit Go.Proofs.YtbjddomocggjmaaW.PrintWords
open PFragcheckChecks

def findN (p : Func → Bool) : List Func → Nat → Int
  | [], _ => -1
  | f :: r, k => if p f then (k : Int) else findN p r (k + 1)
theorem find_hit (p : Func → Bool) : ∀ (l : List Func) (k j : Nat) (x : Func), l[j]? = some x → p x = true → (∀ y ∈ l.take j, p y = false) → findN p l k = ((k + j : Nat) : Int)
  | [], k, j, x, h, _, _ => by simp at h
  | f :: r, k, 0, x, h, hp, _ => by
    simp at h
    subst h
    unfold findN
    rw [if_pos hp]
    rfl
  | f :: r, k, j + 1, x, h, hp, hn => by
    unfold findN
    rw [if_neg (by rw [hn f (by simp)]; simp), find_hit p r (k + 1) j x (by simpa using h) hp fun y hy => hn y (by simp [hy])]
    congr 1
    omega
theorem find_miss (p : Func → Bool) : ∀ (l : List Func) (k : Nat), (∀ y ∈ l, p y = false) → findN p l k = -1
  | [], _, _ => rfl
  | f :: r, k, h => by
    unfold findN
    rw [if_neg (by rw [h f (by simp)]; simp)]
    exact find_miss p r (k + 1) fun y hy => h y (by simp [hy])
theorem find_place {p : Func → Bool} {l : List Func} {i : Int} (h : Place p l i) : i = findN p l 0 := by
  rcases h with ⟨k, x, rfl, h1, h2, h3⟩ | ⟨rfl, h1⟩
  · rw [find_hit p l 0 k x h1 h2 h3, Nat.zero_add]
  · rw [find_miss p l 0 h1]
theorem find_neg (p : Func → Bool) : ∀ (l : List Func) (k : Nat), decide (findN p l k < 0) = !l.any p
  | [], _ => rfl
  | f :: r, k => by
    unfold findN
    cases h : p f with
    | true =>
      rw [if_pos rfl, List.any_cons, h, decide_eq_false (by omega)]
      rfl
    | false => rw [if_neg (by simp), List.any_cons, h, Bool.false_or, find_neg p r (k + 1)]
theorem find_ev (l : List Func) (hl : l.length ≤ M) (nm : ByteArray) (n : Nat) : ∀ i : Nat, i + n = l.length → Ev (fun k => spandrelref20_Find.l0 k l nm i) (findN (nameB nm) (l.drop i) i) := by
  have hM : l.length ≤ 140737488351232 := hl
  induction n with
  | zero =>
    intro i hi
    refine Ev.step (f := fun _ => some _) (fun k => ?_) (Ev.now _)
    simp only [spandrelref20_Find.l0]
    rw [if_neg (by omega), List.drop_of_length_le (by omega)]
    rfl
  | succ n ih =>
    intro i hi
    have hn := ih (i + 1) (by omega)
    have hlt : i < l.length := by omega
    have hg := List.getElem?_eq_getElem hlt
    have hd := List.drop_eq_getElem_cons hlt
    generalize l[i] = f at *
    have hr := rd34 hg
    have hw := wrap_nat i (by omega)
    rw [hd]
    unfold findN
    by_cases he : f.f0.toList = nm.toList
    · rw [if_pos (show nameB nm f = true from beq_iff_eq.mpr he)]
      refine Ev.step (f := fun _ => some _) (fun k => ?_) (Ev.now _)
      simp only [spandrelref20_Find.l0]
      rw [if_pos (by omega), if_pos (by omega), hr, if_pos he]
    · rw [if_neg (show ¬ nameB nm f = true from fun h => he (beq_iff_eq.mp h))]
      refine Ev.step (f := fun k => spandrelref20_Find.l0 k l nm ((i + 1 : Nat) : Int)) (fun k => ?_) hn
      simp only [spandrelref20_Find.l0]
      rw [if_pos (by omega), if_pos (by omega), hr, if_neg he, hw]
theorem find_f (l : List Func) (hl : l.length ≤ M) (nm : ByteArray) : Ev (fun k => spandrelref20_Find.f k l nm) (findN (nameB nm) l 0) := find_ev l hl nm l.length 0 (by omega)
theorem name_contains (l : List Func) (nm : ByteArray) : l.any (nameB nm) = (namesOf l).contains nm.data.toList := by
  rw [Bool.eq_iff_iff, List.any_eq_true, List.contains_iff_mem]
  unfold namesOf
  rw [List.mem_map]
  constructor
  · rintro ⟨f, hf, h⟩
    exact ⟨f, hf, by rw [← Lib.toList_data, ← Lib.toList_data]; exact beq_iff_eq.mp h⟩
  · rintro ⟨f, hf, h⟩
    exact ⟨f, hf, by rw [← Lib.toList_data, ← Lib.toList_data] at h; exact beq_iff_eq.mpr h⟩
theorem names_ev (fs : List Func) (hfs : fs.length ≤ M) (l : List Stmt) (hl : l.length ≤ M) (ho : ∀ x ∈ l, ∀ d, okS d x)
    (ih : ∀ l' : List Stmt, SizeOf.sizeOf l' < SizeOf.sizeOf l → l'.length ≤ M → (∀ x ∈ l', ∀ d, okS d x) → Ev (fun k => spandrelref20_names.f k fs l') (allB (knownB (namesOf fs)) l')) (n : Nat) :
    ∀ i : Nat, i + n = l.length → Ev (fun k => spandrelref20_names.l0 k fs l i) (allB (knownB (namesOf fs)) (l.drop i)) := by
  have hM : l.length ≤ 140737488351232 := hl
  induction n with
  | zero =>
    intro i hi
    refine Ev.step (f := fun _ => some _) (fun k => ?_) (Ev.now _)
    simp only [spandrelref20_names.l0]
    rw [if_neg (by omega), List.drop_of_length_le (by omega), allB]
  | succ n ih2 =>
    intro i hi
    have hn := ih2 (i + 1) (by omega)
    have hlt : i < l.length := by omega
    have hg := List.getElem?_eq_getElem hlt
    have hd := List.drop_eq_getElem_cons hlt
    generalize l[i] = s at *
    have hs := List.mem_of_getElem? hg
    have hr := rd32 hg
    have hw := wrap_nat i (by omega)
    have h3 := ih s.f3 (size3 hs) (ho s hs 1).2.2.2.1 fun x hx d => okS_3 (ho s hs) hx d
    have h4 := ih s.f4 (size4 hs) (ho s hs 1).2.2.2.2.1 fun x hx d => okS_4 (ho s hs) hx d
    rw [hd, allB]
    have hseq : Ev (fun k => (spandrelref20_names.f k fs s.f3).bind fun t => (if t = true then ((spandrelref20_names.f k fs s.f4).bind fun t => (if t = true then (spandrelref20_names.l0 k fs l ((i + 1 : Nat) : Int)) else (some false))) else (some false))) (allB (knownB (namesOf fs)) s.f3 && allB (knownB (namesOf fs)) s.f4 && allB (knownB (namesOf fs)) (l.drop (i + 1))) := by
      refine Ev.bind (f := fun k t => (if t = true then ((spandrelref20_names.f k fs s.f4).bind fun t => (if t = true then (spandrelref20_names.l0 k fs l ((i + 1 : Nat) : Int)) else (some false))) else (some false))) h3 ?_
      cases allB (knownB (namesOf fs)) s.f3 with
      | false => exact Ev.congr (f := fun _ => some _) (fun k => by rw [if_neg (by simp)]; rfl) (Ev.now _)
      | true =>
        refine Ev.congr (f := fun k => (spandrelref20_names.f k fs s.f4).bind fun t => (if t = true then (spandrelref20_names.l0 k fs l ((i + 1 : Nat) : Int)) else (some false))) (fun k => by rw [if_pos rfl]) ?_
        refine Ev.bind (f := fun k t => (if t = true then (spandrelref20_names.l0 k fs l ((i + 1 : Nat) : Int)) else (some false))) h4 ?_
        cases allB (knownB (namesOf fs)) s.f4 with
        | false => exact Ev.congr (f := fun _ => some _) (fun k => by rw [if_neg (by simp)]; rfl) (Ev.now _)
        | true => exact Ev.congr (f := fun k => spandrelref20_names.l0 k fs l ((i + 1 : Nat) : Int)) (fun k => by rw [if_pos rfl]) hn
    have hk : knownB (namesOf fs) s = (s.f0 != 2 || !decide (findN (nameB s.f1) fs 0 < 0)) := by
      rw [find_neg, name_contains, Bool.not_not]; rfl
    by_cases h2 : s.f0 = 2
    · have e0 : (s.f0 != 2) = false := by rw [h2]; rfl
      rw [hk, e0, Bool.false_or]
      refine Ev.step (f := fun k => (spandrelref20_Find.f k fs s.f1).bind fun t => (if t < 0 then (some false) else ((spandrelref20_names.f k fs s.f3).bind fun t => (if t = true then ((spandrelref20_names.f k fs s.f4).bind fun t => (if t = true then (spandrelref20_names.l0 k fs l ((i + 1 : Nat) : Int)) else (some false))) else (some false))))) (fun k => ?_) ?_
      · simp only [spandrelref20_names.l0]
        rw [if_pos (by omega), if_pos (by omega), hr, if_pos h2, hw]
      · refine Ev.bind (f := fun k t => (if t < 0 then (some false) else ((spandrelref20_names.f k fs s.f3).bind fun t => (if t = true then ((spandrelref20_names.f k fs s.f4).bind fun t => (if t = true then (spandrelref20_names.l0 k fs l ((i + 1 : Nat) : Int)) else (some false))) else (some false))))) (find_f fs hfs s.f1) ?_
        by_cases hneg : findN (nameB s.f1) fs 0 < 0
        · rw [decide_eq_true hneg]
          exact Ev.congr (f := fun _ => some _) (fun k => by rw [if_pos hneg]; rfl) (Ev.now _)
        · rw [decide_eq_false hneg]
          exact Ev.congr (fun k => by rw [if_neg hneg]) (by simpa using hseq)
    · have e0 : (s.f0 != 2) = true := bne_iff_ne.mpr h2
      rw [hk, e0, Bool.true_or, Bool.true_and]
      refine Ev.step (fun k => ?_) hseq
      simp only [spandrelref20_names.l0]
      rw [if_pos (by omega), if_pos (by omega), hr, if_neg h2, hw]
theorem names_f (fs : List Func) (hfs : fs.length ≤ M) (n : Nat) : ∀ l : List Stmt, SizeOf.sizeOf l < n → l.length ≤ M → (∀ x ∈ l, ∀ d, okS d x) → Ev (fun k => spandrelref20_names.f k fs l) (allB (knownB (namesOf fs)) l) := by
  induction n with
  | zero => intro l h; omega
  | succ n ih =>
    intro l hl hm ho
    refine Ev.step (f := fun k => spandrelref20_names.l0 k fs l ((0 : Nat) : Int)) (fun k => ?_) (names_ev fs hfs l hm ho (fun l' h1 h2 h3 => ih l' (by omega) h2 h3) l.length 0 (by omega))
    simp only [spandrelref20_names.f]
    rfl
end Go.Proofs.Ytbjddomocggjmaa.Fc
