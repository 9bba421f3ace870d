/- The reference of 07 and 18, plain: words and names. -/
import Derived.Test.YtbjddomocggjmaaFcWW
import Derived.Test.YtbjddomocggjmaaFcF
import Derived.Test.YtbjddomocggjmaaFcP5
import Derived.Test.YtbjddomocggjmaaFcTT
/- The reference of 07 and 18, plain: words, function and method names, arguments. -/
namespace Go.Proofs.Ytbjddomocggjmaa.Fc
open Go.RowKit Go.Proofs.YtbjddomocggjmaaW.PrintWords
open PFragcheckChecks

theorem wrap_in {x : Int} (h0 : -9223372036854775808 ≤ x) (h1 : x ≤ 9223372036854775807) : wrap64 x = x := by
  unfold wrap64
  omega
theorem wrap_nat (i : Nat) (h : i < 9223372036854775807) : wrap64 ((i : Int) + 1) = ((i + 1 : Nat) : Int) := wrap_in (by omega) (by omega)
theorem letter_f (a : Int) : spandrelref07_letter.f a = some (letterI a) := by
  unfold spandrelref07_letter.f letterI
  repeat' split
  all_goals (congr 1; rw [eq_comm]; first | (rw [decide_eq_true_iff]; omega) | (rw [decide_eq_false_iff_not]; omega) | (rw [decide_eq_decide]; omega))
theorem digit_f (a : Int) : spandrelref07_digit.f a = some (digitI a) := by
  unfold spandrelref07_digit.f digitI
  repeat' split
  all_goals (congr 1; rw [eq_comm]; first | (rw [decide_eq_true_iff]; omega) | (rw [decide_eq_false_iff_not]; omega) | (rw [decide_eq_decide]; omega))
theorem bt_list (s : ByteArray) (i : Nat) (c : UInt8) (h : s.data.toList[i]? = some c) : bt s i = (c.toNat : Int) := by
  obtain ⟨h1, h2⟩ := List.getElem?_eq_some_iff.1 h
  rw [bt_getD s i (by rw [size_list] at h1; exact h1), List.getD_eq_getElem?_getD, h]
  rfl
theorem toNat_45 (c : UInt8) : ((c.toNat : Int) = 45) ↔ c = 45 := by
  constructor
  · intro h
    apply UInt8.toNat_inj.1
    show c.toNat = 45
    omega
  · rintro rfl; rfl
set_option maxHeartbeats 1000000 in
theorem word_ev (s : ByteArray) (hs : s.size ≤ M) (d : Nat) : ∀ i : Nat, i + d = s.size → ∃ m : Int, Ev (fun k => spandrelref07_Word.l0 k s i) m ∧ decide (m = (s.size : Int)) = restB (s.data.toList.drop i) := by
  have hM : s.size ≤ 140737488351232 := hs
  induction d with
  | zero =>
    intro i hi
    refine ⟨i, Ev.step (f := fun _ => some (i : Int)) (fun k => ?_) (Ev.now _), ?_⟩
    · simp only [spandrelref07_Word.l0]
      rw [if_neg (by omega)]
    · rw [List.drop_of_length_le (by rw [size_list]; omega)]
      have : (i : Int) = s.size := by omega
      rw [decide_eq_true this]
      rfl
  | succ d ih =>
    intro i hi
    obtain ⟨m, hm, he⟩ := ih (i + 1) (by omega)
    have hlt : i < s.data.toList.length := by rw [size_list]; omega
    have hc : s.data.toList[i]? = some s.data.toList[i] := List.getElem?_eq_getElem hlt
    have hb := bt_list s i _ hc
    have hd := List.drop_eq_getElem_cons hlt
    generalize s.data.toList[i] = c at *
    have hw := wrap_nat i (by omega)
    have h2 : ∀ k, spandrelref07_Word.l0 (k + 1) s i = spandrelref07_Word.j2 k s i (al c) := by
      intro k
      simp only [spandrelref07_Word.l0]
      rw [if_pos (by omega), if_pos (by omega), hb, letter_f, Option.bind_some, digit_f, Option.bind_some]
      unfold al
      cases letterI (c.toNat : Int) with
      | true => rw [if_pos rfl]; rfl
      | false => rw [if_neg (by simp)]; rfl
    cases ha : al c with
    | true =>
      refine ⟨m, Ev.step h2 (Ev.step (f := fun k => spandrelref07_Word.l0 k s ((i + 1 : Nat) : Int)) (fun k => ?_) hm), ?_⟩
      · simp only [spandrelref07_Word.j2]
        rw [ha, if_pos rfl, hw]
      · rw [he, hd, restB_cons, ha, if_pos rfl]
    | false =>
      by_cases h45 : c = 45
      · have hb45 : bt s i = 45 := by rw [hb, h45]; rfl
        by_cases hl2 : i + 1 < s.size
        · have hlt2 : i + 1 < s.data.toList.length := by rw [size_list]; omega
          have hc2 : s.data.toList[i + 1]? = some s.data.toList[i + 1] := List.getElem?_eq_getElem hlt2
          have hb2 := bt_list s (i + 1) _ hc2
          have hd2 := List.drop_eq_getElem_cons hlt2
          generalize s.data.toList[i + 1] = e at *
          have hr : restB (s.data.toList.drop i) = (al e && restB (s.data.toList.drop (i + 1))) := by
            rw [hd, restB_cons, ha, if_neg (by simp), if_pos h45, hd2]
          have h3 : ∀ k, spandrelref07_Word.l0 (k + 2) s i = spandrelref07_Word.j3 k s i (decide (e = 45)) := by
            intro k
            rw [h2, ha]
            simp only [spandrelref07_Word.j2]
            rw [if_neg (by simp), if_pos (by omega), if_pos (by omega), if_pos hb45, hw, if_pos (by omega), if_pos (by omega), hb2]
            congr 1
            rw [Bool.eq_iff_iff, beq_iff_eq, decide_eq_true_iff, toNat_45]
          by_cases h46 : e = 45
          · refine ⟨i, Ev.step (g := fun k => spandrelref07_Word.l0 k s i) (f := fun k => spandrelref07_Word.l0 (k + 1) s i) (fun k => rfl) (Ev.step h3 (Ev.step (f := fun _ => some (i : Int)) (fun k => ?_) (Ev.now _))), ?_⟩
            · simp only [spandrelref07_Word.j3]
              rw [decide_eq_true h46, if_pos rfl]
            · rw [hr, h46, decide_eq_false (by omega)]
              have : al 45 = false := by decide
              rw [this]; rfl
          · have h4 : ∀ k, spandrelref07_Word.l0 (k + 3) s i = if al e then spandrelref07_Word.l0 k s ((i + 1 : Nat) : Int) else some (-1) := by
              intro k
              rw [h3, decide_eq_false h46]
              simp only [spandrelref07_Word.j3]
              rw [if_neg (by simp), hw, if_neg (by omega), if_pos (by omega), if_pos (by omega), hb2, letter_f, Option.bind_some, digit_f, Option.bind_some]
              unfold al
              cases letterI (e.toNat : Int) with
              | true => rfl
              | false => cases digitI (e.toNat : Int) <;> rfl
            cases hae : al e with
            | true =>
              refine ⟨m, Ev.step (g := fun k => spandrelref07_Word.l0 k s i) (f := fun k => spandrelref07_Word.l0 (k + 1) s i) (fun k => rfl) (Ev.step (f := fun k => spandrelref07_Word.l0 (k + 2) s i) (fun k => rfl) (Ev.step (f := fun k => spandrelref07_Word.l0 k s ((i + 1 : Nat) : Int)) (fun k => ?_) hm)), ?_⟩
              · rw [h4, hae, if_pos rfl]
              · rw [he, hr, hae, Bool.true_and]
            | false =>
              refine ⟨-1, Ev.step (g := fun k => spandrelref07_Word.l0 k s i) (f := fun k => spandrelref07_Word.l0 (k + 1) s i) (fun k => rfl) (Ev.step (f := fun k => spandrelref07_Word.l0 (k + 2) s i) (fun k => rfl) (Ev.step (f := fun _ => some (-1)) (fun k => ?_) (Ev.now _))), ?_⟩
              · rw [h4, hae, if_neg (by simp)]
              · rw [hr, hae, decide_eq_false (by omega)]; rfl
        · have hn : i + 1 = s.size := by omega
          have hr : restB (s.data.toList.drop i) = false := by
            rw [hd, restB_cons, ha, if_neg (by simp), if_pos h45, List.drop_of_length_le (by rw [size_list]; omega)]
          refine ⟨-1, Ev.step (g := fun k => spandrelref07_Word.l0 k s i) (f := fun k => spandrelref07_Word.l0 (k + 1) s i) (fun k => rfl) (Ev.step (f := fun k => spandrelref07_Word.j3 k s i false) (fun k => ?_) (Ev.step (f := fun _ => some (-1)) (fun k => ?_) (Ev.now _))), ?_⟩
          · rw [h2, ha]
            simp only [spandrelref07_Word.j2]
            rw [if_neg (by simp), if_pos (by omega), if_pos (by omega), if_pos hb45, hw, if_neg (by omega)]
          · simp only [spandrelref07_Word.j3]
            rw [if_neg (by simp), hw, if_pos (by omega)]
          · rw [hr, decide_eq_false (by omega)]
      · refine ⟨i, Ev.step (g := fun k => spandrelref07_Word.l0 k s i) (f := fun k => spandrelref07_Word.l0 (k + 1) s i) (fun k => rfl) (Ev.step (f := fun k => spandrelref07_Word.j3 k s i true) (fun k => ?_) (Ev.step (f := fun _ => some (i : Int)) (fun k => ?_) (Ev.now _))), ?_⟩
        · rw [h2, ha]
          simp only [spandrelref07_Word.j2]
          rw [if_neg (by simp), if_pos (by omega), if_pos (by omega), if_neg (by rw [hb, toNat_45]; exact h45)]
        · simp only [spandrelref07_Word.j3]
          rfl
        · rw [hd, restB_cons, ha, if_neg (by simp), if_neg h45, decide_eq_false (by omega)]
theorem word_f (s : ByteArray) (hs : s.size ≤ M) (hp : 0 < s.size) : ∃ m : Int, Ev (fun k => spandrelref07_Word.f k s) m ∧ decide (m = (s.size : Int)) = wholeB s.data.toList := by
  obtain ⟨m, hm, he⟩ := word_ev s hs (s.size - 1) 1 (by omega)
  have hlt : 0 < s.data.toList.length := by rw [size_list]; omega
  have hc : s.data.toList[0]? = some s.data.toList[0] := List.getElem?_eq_getElem hlt
  have hb := bt_list s 0 _ hc
  have hd := List.drop_eq_getElem_cons hlt
  rw [List.drop_zero] at hd
  generalize s.data.toList[0] = c at *
  have h1 : ∀ k, spandrelref07_Word.f k s = spandrelref07_Word.j0 k s (!letterI (c.toNat : Int)) := by
    intro k
    unfold spandrelref07_Word.f
    have hb' : bt s 0 = (c.toNat : Int) := hb
    rw [if_neg (by omega), if_pos (by omega), hb', letter_f, Option.bind_some]
  have hr : wholeB s.data.toList = (letterI c.toNat && restB (s.data.toList.drop 1)) := by
    rw [hd]; rfl
  cases hl : letterI (c.toNat : Int) with
  | true =>
    refine ⟨m, Ev.congr h1 (Ev.step (f := fun k => spandrelref07_Word.l0 k s ((1 : Nat) : Int)) (fun k => ?_) hm), ?_⟩
    · simp only [spandrelref07_Word.j0]
      rw [hl, if_neg (by simp)]
      rfl
    · rw [he, hr, hl, Bool.true_and]
  | false =>
    refine ⟨0, Ev.congr h1 (Ev.step (f := fun _ => some 0) (fun k => ?_) (Ev.now _)), ?_⟩
    · simp only [spandrelref07_Word.j0]
      rw [hl]
      rfl
    · rw [hr, hl, decide_eq_false (by omega)]; rfl
end Go.Proofs.Ytbjddomocggjmaa.Fc

/- The reference of 18, plain: names, arguments, statements, fragments. -/
namespace Go.Proofs.Ytbjddomocggjmaa.Fc
open Go.RowKit Go.Proofs.YtbjddomocggjmaaW.PrintWords
open PFragcheckChecks

theorem Ev.if_true {α : Type} {g f : Nat → Option α} {r : α} {b : Bool} (hb : b = true) (h : Ev g r) : Ev (fun k => if b = true then g k else f k) r := by
  subst hb; simpa using h
theorem head_list (s : ByteArray) (h : 0 < s.size) : bt s 0 = headI s.data.toList := (head_bt s h).symm
theorem lower_f (s : ByteArray) (hs : s.size ≤ M) : Ev (fun k => spandrelref07_Lower.f k s) (lowerB s.data.toList) := by
  by_cases h0 : 0 < s.size
  · obtain ⟨m, hm, he⟩ := word_f s hs h0
    have hb := head_list s h0
    refine Ev.congr (f := fun k => (spandrelref07_Word.f k s).bind fun t => (if t = (s.size : Int) then (if 0 < (s.size : Int) then (some (decide ((bt s 0) ≥ 97))) else (none)) else (some false))) (fun k => ?_) ?_
    · unfold spandrelref07_Lower.f
      rw [if_pos (by omega)]
    · refine Ev.bind (f := fun k t => (if t = (s.size : Int) then (if 0 < (s.size : Int) then (some (decide ((bt s 0) ≥ 97))) else (none)) else (some false))) hm ?_
      refine Ev.congr (f := fun _ => some _) (fun k => ?_) (Ev.now _)
      unfold lowerB
      rw [← he]
      by_cases hmn : m = (s.size : Int)
      · rw [if_pos hmn, if_pos (by omega), decide_eq_true hmn, Bool.true_and, hb]
      · rw [if_neg hmn, decide_eq_false hmn, Bool.false_and]
  · have e : s.data.toList = [] := List.length_eq_zero_iff.1 (by rw [size_list]; omega)
    refine Ev.congr (f := fun _ => some (lowerB s.data.toList)) (fun k => ?_) (Ev.now _)
    unfold spandrelref07_Lower.f
    rw [if_neg (by omega), e]
    rfl
theorem upper_f (s : ByteArray) (hs : s.size ≤ M) : Ev (fun k => spandrelref07_Upper.f k s) (upperB s.data.toList) := by
  by_cases h0 : 0 < s.size
  · obtain ⟨m, hm, he⟩ := word_f s hs h0
    have hb := head_list s h0
    refine Ev.congr (f := fun k => (spandrelref07_Word.f k s).bind fun t => (if t = (s.size : Int) then (if 0 < (s.size : Int) then (some (decide ((bt s 0) < 97))) else (none)) else (some false))) (fun k => ?_) ?_
    · unfold spandrelref07_Upper.f
      rw [if_pos (by omega)]
    · refine Ev.bind (f := fun k t => (if t = (s.size : Int) then (if 0 < (s.size : Int) then (some (decide ((bt s 0) < 97))) else (none)) else (some false))) hm ?_
      refine Ev.congr (f := fun _ => some _) (fun k => ?_) (Ev.now _)
      unfold upperB
      rw [← he]
      by_cases hmn : m = (s.size : Int)
      · rw [if_pos hmn, if_pos (by omega), decide_eq_true hmn, Bool.true_and, hb]
      · rw [if_neg hmn, decide_eq_false hmn, Bool.false_and]
  · have e : s.data.toList = [] := List.length_eq_zero_iff.1 (by rw [size_list]; omega)
    refine Ev.congr (f := fun _ => some (upperB s.data.toList)) (fun k => ?_) (Ev.now _)
    unfold spandrelref07_Upper.f
    rw [if_neg (by omega), e]
    rfl
theorem plain_ev (s : ByteArray) (hs : s.size ≤ M) (d : Nat) : ∀ i : Nat, i + d = s.size → Ev (fun k => spandrelref18_plain.l0 k s i) (!(s.data.toList.drop i).contains 45) := by
  have hM : s.size ≤ 140737488351232 := hs
  induction d with
  | zero =>
    intro i hi
    refine Ev.step (f := fun _ => some _) (fun k => ?_) (Ev.now _)
    simp only [spandrelref18_plain.l0]
    rw [if_neg (by omega), List.drop_of_length_le (by rw [size_list]; omega)]
    rfl
  | succ d ih =>
    intro i hi
    have hn := ih (i + 1) (by omega)
    have hlt : i < s.data.toList.length := by rw [size_list]; omega
    have hc : s.data.toList[i]? = some s.data.toList[i] := List.getElem?_eq_getElem hlt
    have hb := bt_list s i _ hc
    have hd := List.drop_eq_getElem_cons hlt
    generalize s.data.toList[i] = c at *
    have hw := wrap_nat i (by omega)
    rw [hd]
    by_cases h45 : c = 45
    · refine Ev.step (f := fun _ => some _) (fun k => ?_) (Ev.now _)
      simp only [spandrelref18_plain.l0]
      rw [if_pos (by omega), if_pos (by omega), hb, if_pos ((toNat_45 c).2 h45), h45]
      simp
    · have e : (!(c :: s.data.toList.drop (i + 1)).contains 45) = !(s.data.toList.drop (i + 1)).contains 45 := by
        rw [List.contains_cons, beq_eq_false_iff_ne.mpr (fun e => h45 e.symm), Bool.false_or]
      rw [e]
      refine Ev.step (f := fun k => spandrelref18_plain.l0 k s ((i + 1 : Nat) : Int)) (fun k => ?_) hn
      simp only [spandrelref18_plain.l0]
      rw [if_pos (by omega), if_pos (by omega), hb, if_neg (fun h => h45 ((toNat_45 c).1 h)), hw]
theorem plain_f (s : ByteArray) (hs : s.size ≤ M) : Ev (fun k => spandrelref18_plain.f k s) (!s.data.toList.contains 45) := plain_ev s hs s.size 0 (by omega)
theorem function_f (s : ByteArray) (hs : s.size ≤ M) : Ev (fun k => spandrelref18_Function.f k s) (fnB s) := by
  unfold spandrelref18_Function.f
  refine Ev.bind (lower_f s hs) ?_
  unfold fnB
  cases h1 : lowerB s.data.toList with
  | false =>
    refine Ev.congr (f := fun _ => some _) (fun k => ?_) (Ev.now _)
    rw [if_neg (by simp)]
    repeat' split
    all_goals rfl
  | true =>
    refine Ev.congr (f := fun k => (spandrelref18_plain.f k s).bind _) (fun k => by rw [if_pos rfl]) (Ev.bind (plain_f s hs) ?_)
    cases h2 : s.data.toList.contains 45 with
    | true =>
      refine Ev.congr (f := fun _ => some _) (fun k => ?_) (Ev.now _)
      rw [if_neg (by simp)]
      repeat' split
      all_goals rfl
    | false =>
      refine Ev.congr (f := fun _ => some _) (fun k => ?_) (Ev.now _)
      rw [if_pos (by rfl)]
      split
      · rfl
      split
      · rfl
      split
      · rfl
      split
      · rfl
      congr 1
      by_cases h : s.toList = ([99] : List UInt8)
      · rw [if_pos h, h]; rfl
      · rw [if_neg h, bne_iff_ne.mpr h]; rfl
theorem method_f (s : ByteArray) (hs : s.size ≤ M) : Ev (fun k => spandrelref18_Method.f k s) (mtB s) := by
  unfold spandrelref18_Method.f
  refine Ev.bind (upper_f s hs) ?_
  unfold mtB
  cases h1 : upperB s.data.toList with
  | false => exact Ev.congr (f := fun _ => some _) (fun k => by rw [if_neg (by simp)]; rfl) (Ev.now _)
  | true =>
    refine Ev.congr (f := fun k => (spandrelref18_plain.f k s).bind fun t => some t) (fun k => by rw [if_pos rfl]) (Ev.bind (f := fun _ t => some t) (plain_f s hs) ?_)
    exact Ev.now _
end Go.Proofs.Ytbjddomocggjmaa.Fc
