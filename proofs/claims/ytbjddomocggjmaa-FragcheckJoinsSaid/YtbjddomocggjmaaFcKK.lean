/- The reference of 20, plain: only, right, sorts. -/
import Derived.Test.YtbjddomocggjmaaFcJ
/- The reference of 20, plain: sorts, only, right. -/
namespace Go.Proofs.Ytbjddomocggjmaa.Fc
open Go.RowKit Go.Proofs.YtbjddomocggjmaaW.PrintWords
open PFragcheckChecks
open Ppattern (fragcheck_pattern.f fragcheck_pattern.j0 fragcheck_pattern.j1)

def onlyB (s h : List UInt8) (c : UInt8) : Bool := s.take h.length == h && (s.drop h.length).all (· == c)
theorem only_ev (s : ByteArray) (hs : s.size ≤ M) (c : UInt8) (n : Nat) : ∀ i : Nat, i + n = s.size → Ev (fun k => spandrelref20_only.l0 k s (c.toNat : Int) i) ((s.data.toList.drop i).all (· == c)) := by
  have hM : s.size ≤ 140737488351232 := hs
  induction n with
  | zero =>
    intro i hi
    refine Ev.step (f := fun _ => some _) (fun k => ?_) (Ev.now _)
    simp only [spandrelref20_only.l0]
    rw [if_neg (by omega), List.drop_of_length_le (by rw [size_list]; omega)]
    rfl
  | succ n ih =>
    intro i hi
    have hn := ih (i + 1) (by omega)
    have hlt : i < s.data.toList.length := by rw [size_list]; omega
    have hc : s.data.toList[i]? = some s.data.toList[i] := List.getElem?_eq_getElem hlt
    have hb := bt_list s i _ hc
    have hd := List.drop_eq_getElem_cons hlt
    generalize s.data.toList[i] = e at *
    have hw := wrap_nat i (by omega)
    rw [hd, List.all_cons]
    by_cases he : e = c
    · rw [beq_iff_eq.mpr he, Bool.true_and]
      refine Ev.step (f := fun k => spandrelref20_only.l0 k s (c.toNat : Int) ((i + 1 : Nat) : Int)) (fun k => ?_) hn
      simp only [spandrelref20_only.l0]
      rw [if_pos (by omega), if_pos (by omega), hb, if_pos (by rw [he]), hw]
    · rw [beq_eq_false_iff_ne.mpr he, Bool.false_and]
      refine Ev.step (f := fun _ => some _) (fun k => ?_) (Ev.now _)
      simp only [spandrelref20_only.l0]
      rw [if_pos (by omega), if_pos (by omega), hb, if_neg (fun h => he (UInt8.toNat_inj.1 (by omega)))]
theorem only_f (s h : ByteArray) (hs : s.size ≤ M) (c : UInt8) (hh : h.size ≤ 1000) : Ev (fun k => spandrelref20_only.f k s h (c.toNat : Int)) (onlyB s.data.toList h.data.toList c) := by
  unfold onlyB
  rw [size_list]
  by_cases hlt : s.size < h.size
  · have e : (s.data.toList.take h.size == h.data.toList) = false := by
      rw [beq_eq_false_iff_ne]
      intro e
      have := congrArg List.length e
      rw [List.length_take, size_list, size_list] at this
      omega
    rw [e, Bool.false_and]
    refine Ev.congr (f := fun k => spandrelref20_only.j0 k s h (c.toNat : Int) true) (fun k => ?_) (Ev.step (f := fun _ => some false) (fun k => ?_) (Ev.now _))
    · unfold spandrelref20_only.f
      rw [if_pos (by omega)]
    · simp only [spandrelref20_only.j0]; rfl
  · have e1 : ((s.extract 0 ((h.size : Int)).toNat).toList != h.toList) = !(s.data.toList.take h.size == h.data.toList) := by
      have e2 : (s.extract 0 ((h.size : Int)).toNat).toList = s.data.toList.take h.size := by
        rw [Int.toNat_natCast, Lib.toList_data]
        simp only [ByteArray.data_extract, Array.toList_extract]
        rw [List.extract_eq_take_drop, List.drop_zero, Nat.sub_zero]
      rw [e2, Lib.toList_data]
      rfl
    have hg : ∀ k, spandrelref20_only.f k s h (c.toNat : Int) = spandrelref20_only.j0 k s h (c.toNat : Int) (!(s.data.toList.take h.size == h.data.toList)) := by
      intro k
      unfold spandrelref20_only.f
      rw [if_neg (by omega), if_pos (by omega), if_pos (by omega), e1]
    cases hx : (s.data.toList.take h.size == h.data.toList) with
    | false =>
      rw [Bool.false_and]
      refine Ev.congr hg (Ev.step (f := fun _ => some false) (fun k => ?_) (Ev.now _))
      simp only [spandrelref20_only.j0]; rw [hx]; rfl
    | true =>
      rw [Bool.true_and]
      refine Ev.congr hg (Ev.step (f := fun k => spandrelref20_only.l0 k s (c.toNat : Int) ((h.size : Nat) : Int)) (fun k => ?_) (only_ev s hs c (s.size - h.size) h.size (by omega)))
      simp only [spandrelref20_only.j0]; rw [hx]; rfl

/-! ### patterns -/
theorem fits_nil (s : List UInt8) : fitsB s [] = (s == []) := by cases s <;> rfl
theorem fitsB_cons (c : UInt8) (r p : List UInt8) : fitsB (c :: r) p = if (p.isEmpty || p.getD 0 0 != c) = true then false else if starB p = true then fitsB r p else fitsB r (p.drop 1) := rfl
theorem fits_star (c : UInt8) : ∀ s : List UInt8, fitsB s [c, 42] = s.all (· == c)
  | [] => rfl
  | x :: s => by
    unfold fitsB
    rw [List.all_cons]
    by_cases h : x = c
    · subst h
      have : starB [x, 42] = true := rfl
      rw [this, if_pos rfl, fits_star x s]
      simp
    · have : ([c, 42].isEmpty || [c, 42].getD 0 0 != x) = true := by
        show (false || c != x) = true
        rw [Bool.false_or, bne_iff_ne]
        exact fun e => h e.symm
      rw [this, if_pos rfl, beq_eq_false_iff_ne.mpr h, Bool.false_and]
/-- A letter ahead, and more behind it that is no star alone. -/
theorem fits_cons (c : UInt8) (p : List UInt8) (hp : starB (c :: p) = false) (s : List UInt8) : fitsB s (c :: p) = (match s with | [] => false | x :: r => x == c && fitsB r p) := by
  cases s with
  | nil => show (false || starB (c :: p)) = false; rw [hp]; rfl
  | cons x r =>
    show fitsB (x :: r) (c :: p) = (x == c && fitsB r p)
    rw [fitsB_cons, hp]
    by_cases h : x = c
    · subst h
      have : ((x :: p).isEmpty || (x :: p).getD 0 0 != x) = false := by
        show (false || x != x) = false
        simp
      rw [this, if_neg (by simp), if_neg (by simp), beq_self_eq_true, Bool.true_and]
      rfl
    · have : ((c :: p).isEmpty || (c :: p).getD 0 0 != x) = true := by
        show (false || c != x) = true
        rw [Bool.false_or, bne_iff_ne]
        exact fun e => h e.symm
      rw [this, if_pos rfl, beq_eq_false_iff_ne.mpr h, Bool.false_and]
theorem fits_one (a : UInt8) (s : List UInt8) : fitsB s [a] = (s == [a]) := by
  rw [fits_cons a [] rfl]
  cases s with
  | nil => rfl
  | cons x r => simp only [fits_nil]; rfl
theorem fits_def (s : List UInt8) : fitsB s [115, 110, 110, 115] = (s == [115, 110, 110, 115]) := by
  rw [fits_cons 115 _ rfl]
  cases s with
  | nil => rfl
  | cons x r =>
    simp only []
    rw [fits_cons 110 _ rfl]
    cases r with
    | nil => simp
    | cons y r =>
      simp only []
      rw [fits_cons 110 _ rfl]
      cases r with
      | nil => simp
      | cons z r =>
        simp only []
        rw [fits_one]
        rfl
theorem fits_only0 (s : List UInt8) (c : UInt8) : fitsB s [c, 42] = onlyB s [] c := by
  rw [fits_star]
  unfold onlyB
  simp
theorem fits_only1 (s : List UInt8) (a c : UInt8) (hp : starB [a, c, 42] = false) : fitsB s [a, c, 42] = onlyB s [a] c := by
  rw [fits_cons a _ hp]
  unfold onlyB
  cases s with
  | nil => rfl
  | cons x r => simp only [fits_star]; simp
theorem fits_only2 (s : List UInt8) (a b c : UInt8) (hp : starB [b, c, 42] = false) : fitsB s [a, b, c, 42] = onlyB s [a, b] c := by
  rw [fits_cons a _ rfl]
  cases s with
  | nil => rfl
  | cons x r =>
    simp only []
    rw [fits_only1 _ _ _ hp]
    unfold onlyB
    simp [Bool.and_assoc]
theorem fits_only3 (s : List UInt8) (a b d c : UInt8) (hp : starB [d, c, 42] = false) : fitsB s [a, b, d, c, 42] = onlyB s [a, b, d] c := by
  rw [fits_cons a _ rfl]
  cases s with
  | nil => rfl
  | cons x r =>
    simp only []
    rw [fits_only2 _ _ _ _ hp]
    unfold onlyB
    simp [Bool.and_assoc]
end Go.Proofs.Ytbjddomocggjmaa.Fc

/- The reference of 20, plain: right, sorts; Few ends. -/
namespace Go.Proofs.Ytbjddomocggjmaa.Fc
open Go.RowKit Go.Proofs.YtbjddomocggjmaaW.PrintWords
open PFragcheckChecks
open Ppattern (fragcheck_pattern.f fragcheck_pattern.j0 fragcheck_pattern.j1)

def patV (ss : ByteArray) (p : ByteArray × Bool) : Bool := p.2 && fitsB ss.data.toList p.1.data.toList
theorem beq_data (ss : ByteArray) (l : List UInt8) : (ss.toList == l) = (ss.data.toList == l) := by rw [Lib.toList_data]
theorem right_j1 (ss name : ByteArray) (hs : ss.size ≤ M) (b : Bool) : ∃ p, (∀ k, fragcheck_pattern.j1 (k + 1) name b = some p) ∧ Ev (fun k => spandrelref20_right.j1 k ss name b) (patV ss p) := by
  cases b with
  | true =>
    refine ⟨(⟨#[110, 110, 42]⟩, true), fun k => by simp only [fragcheck_pattern.j1]; rfl, ?_⟩
    have e : patV ss (⟨#[110, 110, 42]⟩, true) = onlyB ss.data.toList [110] 110 := by show (true && fitsB ss.data.toList [110, 110, 42]) = _; rw [Bool.true_and, fits_only1 _ 110 110 rfl]
    rw [e]
    refine Ev.step (f := fun k => (spandrelref20_only.f k ss (⟨#[110]⟩ : ByteArray) 110).bind fun t => some t) (fun k => by simp only [spandrelref20_right.j1]; rfl) (Ev.bind (f := fun _ t => some t) (only_f ss ⟨#[110]⟩ hs 110 (by show _ ≤ 1000; decide)) (Ev.now _))
  | false =>
    by_cases c0 : name.toList = ([83, 116, 114] : List UInt8)
    · refine ⟨(⟨#[115, 110, 110, 42]⟩, true), fun k => by simp only [fragcheck_pattern.j1]; rw [if_neg (by simp), if_pos c0], ?_⟩
      have e : patV ss (⟨#[115, 110, 110, 42]⟩, true) = onlyB ss.data.toList [115, 110] 110 := by show (true && fitsB ss.data.toList [115, 110, 110, 42]) = _; rw [Bool.true_and, fits_only2 _ 115 110 110 rfl]
      rw [e]
      exact Ev.step (f := fun k => (spandrelref20_only.f k ss (⟨#[115, 110]⟩ : ByteArray) 110).bind fun t => some t) (fun k => by simp only [spandrelref20_right.j1]; rw [if_neg (by simp), if_pos c0]) (Ev.bind (f := fun _ t => some t) (only_f ss ⟨#[115, 110]⟩ hs 110 (by show _ ≤ 1000; decide)) (Ev.now _))
    by_cases c1 : name.toList = ([69, 110, 117, 109] : List UInt8)
    · refine ⟨(⟨#[110, 110, 115, 115, 42]⟩, true), fun k => by simp only [fragcheck_pattern.j1]; rw [if_neg (by simp), if_neg c0, if_pos c1], ?_⟩
      have e : patV ss (⟨#[110, 110, 115, 115, 42]⟩, true) = onlyB ss.data.toList [110, 110, 115] 115 := by show (true && fitsB ss.data.toList [110, 110, 115, 115, 42]) = _; rw [Bool.true_and, fits_only3 _ 110 110 115 115 rfl]
      rw [e]
      exact Ev.step (f := fun k => (spandrelref20_only.f k ss (⟨#[110, 110, 115]⟩ : ByteArray) 115).bind fun t => some t) (fun k => by simp only [spandrelref20_right.j1]; rw [if_neg (by simp), if_neg c0, if_pos c1]) (Ev.bind (f := fun _ t => some t) (only_f ss ⟨#[110, 110, 115]⟩ hs 115 (by show _ ≤ 1000; decide)) (Ev.now _))
    by_cases c2 : name.toList = ([67, 104, 111, 105, 99, 101] : List UInt8)
    · refine ⟨(⟨#[110, 115, 115, 42]⟩, true), fun k => by simp only [fragcheck_pattern.j1]; rw [if_neg (by simp), if_neg c0, if_neg c1, if_pos c2], ?_⟩
      have e : patV ss (⟨#[110, 115, 115, 42]⟩, true) = onlyB ss.data.toList [110, 115] 115 := by show (true && fitsB ss.data.toList [110, 115, 115, 42]) = _; rw [Bool.true_and, fits_only2 _ 110 115 115 rfl]
      rw [e]
      exact Ev.step (f := fun k => (spandrelref20_only.f k ss (⟨#[110, 115]⟩ : ByteArray) 115).bind fun t => some t) (fun k => by simp only [spandrelref20_right.j1]; rw [if_neg (by simp), if_neg c0, if_neg c1, if_pos c2]) (Ev.bind (f := fun _ t => some t) (only_f ss ⟨#[110, 115]⟩ hs 115 (by show _ ≤ 1000; decide)) (Ev.now _))
    by_cases c3 : name.toList = ([83, 101, 113] : List UInt8)
    · refine ⟨(⟨#[110]⟩, true), fun k => by simp only [fragcheck_pattern.j1]; rw [if_neg (by simp), if_neg c0, if_neg c1, if_neg c2, if_pos c3], ?_⟩
      have e : patV ss (⟨#[110]⟩, true) = (ss.toList == ([110] : List UInt8)) := by show (true && fitsB ss.data.toList [110]) = _; rw [Bool.true_and, fits_one 110 _]; exact (beq_data ss _).symm
      rw [e]
      exact Ev.step (f := fun _ => some (ss.toList == ([110] : List UInt8))) (fun k => by simp only [spandrelref20_right.j1]; rw [if_neg (by simp), if_neg c0, if_neg c1, if_neg c2, if_pos c3]) (Ev.now _)
    by_cases c4 : name.toList = ([68, 101, 102] : List UInt8)
    · refine ⟨(⟨#[115, 110, 110, 115]⟩, true), fun k => by simp only [fragcheck_pattern.j1]; rw [if_neg (by simp), if_neg c0, if_neg c1, if_neg c2, if_neg c3, if_pos c4], ?_⟩
      have e : patV ss (⟨#[115, 110, 110, 115]⟩, true) = (ss.toList == ([115, 110, 110, 115] : List UInt8)) := by show (true && fitsB ss.data.toList [115, 110, 110, 115]) = _; rw [Bool.true_and, fits_def _]; exact (beq_data ss _).symm
      rw [e]
      exact Ev.step (f := fun _ => some (ss.toList == ([115, 110, 110, 115] : List UInt8))) (fun k => by simp only [spandrelref20_right.j1]; rw [if_neg (by simp), if_neg c0, if_neg c1, if_neg c2, if_neg c3, if_pos c4]) (Ev.now _)
    by_cases c5 : name.toList = ([65, 100, 100, 115] : List UInt8)
    · refine ⟨(⟨#[115, 42]⟩, true), fun k => by simp only [fragcheck_pattern.j1]; rw [if_neg (by simp), if_neg c0, if_neg c1, if_neg c2, if_neg c3, if_neg c4, if_pos c5], ?_⟩
      have e : patV ss (⟨#[115, 42]⟩, true) = onlyB ss.data.toList [] 115 := by show (true && fitsB ss.data.toList [115, 42]) = _; rw [Bool.true_and, fits_only0 _ 115]
      rw [e]
      exact Ev.step (f := fun k => (spandrelref20_only.f k ss (⟨#[]⟩ : ByteArray) 115).bind fun t => some t) (fun k => by simp only [spandrelref20_right.j1]; rw [if_neg (by simp), if_neg c0, if_neg c1, if_neg c2, if_neg c3, if_neg c4, if_pos c5]) (Ev.bind (f := fun _ t => some t) (only_f ss ⟨#[]⟩ hs 115 (by show _ ≤ 1000; decide)) (Ev.now _))
    by_cases c6 : name.toList = ([66, 105, 116] : List UInt8)
    · refine ⟨(⟨#[115]⟩, true), fun k => by simp only [fragcheck_pattern.j1]; rw [if_neg (by simp), if_neg c0, if_neg c1, if_neg c2, if_neg c3, if_neg c4, if_neg c5, if_pos c6], ?_⟩
      have e : patV ss (⟨#[115]⟩, true) = (ss.toList == ([115] : List UInt8)) := by show (true && fitsB ss.data.toList [115]) = _; rw [Bool.true_and, fits_one 115 _]; exact (beq_data ss _).symm
      rw [e]
      exact Ev.step (f := fun _ => some (ss.toList == ([115] : List UInt8))) (fun k => by simp only [spandrelref20_right.j1]; rw [if_neg (by simp), if_neg c0, if_neg c1, if_neg c2, if_neg c3, if_neg c4, if_neg c5, if_pos c6]) (Ev.now _)
    by_cases c7 : name.toList = ([73, 110] : List UInt8)
    · refine ⟨(⟨#[115]⟩, true), fun k => by simp only [fragcheck_pattern.j1]; rw [if_neg (by simp), if_neg c0, if_neg c1, if_neg c2, if_neg c3, if_neg c4, if_neg c5, if_neg c6, if_pos c7], ?_⟩
      have e : patV ss (⟨#[115]⟩, true) = (ss.toList == ([115] : List UInt8)) := by show (true && fitsB ss.data.toList [115]) = _; rw [Bool.true_and, fits_one 115 _]; exact (beq_data ss _).symm
      rw [e]
      exact Ev.step (f := fun _ => some (ss.toList == ([115] : List UInt8))) (fun k => by simp only [spandrelref20_right.j1]; rw [if_neg (by simp), if_neg c0, if_neg c1, if_neg c2, if_neg c3, if_neg c4, if_neg c5, if_neg c6, if_pos c7]) (Ev.now _)
    by_cases c8 : name.toList = ([79, 112, 101, 110] : List UInt8)
    · refine ⟨(⟨#[115]⟩, true), fun k => by simp only [fragcheck_pattern.j1]; rw [if_neg (by simp), if_neg c0, if_neg c1, if_neg c2, if_neg c3, if_neg c4, if_neg c5, if_neg c6, if_neg c7, if_pos c8], ?_⟩
      have e : patV ss (⟨#[115]⟩, true) = (ss.toList == ([115] : List UInt8)) := by show (true && fitsB ss.data.toList [115]) = _; rw [Bool.true_and, fits_one 115 _]; exact (beq_data ss _).symm
      rw [e]
      exact Ev.step (f := fun _ => some (ss.toList == ([115] : List UInt8))) (fun k => by simp only [spandrelref20_right.j1]; rw [if_neg (by simp), if_neg c0, if_neg c1, if_neg c2, if_neg c3, if_neg c4, if_neg c5, if_neg c6, if_neg c7, if_pos c8]) (Ev.now _)
    refine ⟨(⟨#[]⟩, false), fun k => by simp only [fragcheck_pattern.j1]; rw [if_neg (by simp), if_neg c0, if_neg c1, if_neg c2, if_neg c3, if_neg c4, if_neg c5, if_neg c6, if_neg c7, if_neg c8], ?_⟩
    exact Ev.step (f := fun _ => some false) (fun k => by simp only [spandrelref20_right.j1]; rw [if_neg (by simp), if_neg c0, if_neg c1, if_neg c2, if_neg c3, if_neg c4, if_neg c5, if_neg c6, if_neg c7, if_neg c8]) (Ev.now _)
theorem right_j0 (ss name : ByteArray) (hs : ss.size ≤ M) (b : Bool) : ∃ p, (∀ k, fragcheck_pattern.j0 (k + 2) name b = some p) ∧ Ev (fun k => spandrelref20_right.j0 k ss name b) (patV ss p) := by
  cases b with
  | true =>
    refine ⟨(⟨#[]⟩, true), fun k => by simp only [fragcheck_pattern.j0]; rfl, ?_⟩
    have e : patV ss (⟨#[]⟩, true) = (ss.toList == ([] : List UInt8)) := by show (true && fitsB ss.data.toList []) = _; rw [Bool.true_and, fits_nil _]; exact (beq_data ss _).symm
    rw [e]
    exact Ev.step (f := fun _ => some (ss.toList == ([] : List UInt8))) (fun k => by simp only [spandrelref20_right.j0]; rfl) (Ev.now _)
  | false =>
    by_cases c0 : name.toList = ([73, 110, 116] : List UInt8)
    · obtain ⟨p, h1, h2⟩ := right_j1 ss name hs (name.toList == ([73, 110, 116] : List UInt8))
      exact ⟨p, fun k => by simp only [fragcheck_pattern.j0]; rw [if_neg (by simp), if_pos c0]; exact h1 k, Ev.step (f := fun k => spandrelref20_right.j1 k ss name (name.toList == ([73, 110, 116] : List UInt8))) (fun k => by simp only [spandrelref20_right.j0]; rw [if_neg (by simp), if_pos c0]) h2⟩
    by_cases c1 : name.toList = ([66, 105, 116, 115] : List UInt8)
    · obtain ⟨p, h1, h2⟩ := right_j1 ss name hs (name.toList == ([66, 105, 116, 115] : List UInt8))
      exact ⟨p, fun k => by simp only [fragcheck_pattern.j0]; rw [if_neg (by simp), if_neg c0, if_pos c1]; exact h1 k, Ev.step (f := fun k => spandrelref20_right.j1 k ss name (name.toList == ([66, 105, 116, 115] : List UInt8))) (fun k => by simp only [spandrelref20_right.j0]; rw [if_neg (by simp), if_neg c0, if_pos c1]) h2⟩
    by_cases c2 : name.toList = ([79, 99, 116, 101, 116, 115] : List UInt8)
    · obtain ⟨p, h1, h2⟩ := right_j1 ss name hs (name.toList == ([79, 99, 116, 101, 116, 115] : List UInt8))
      exact ⟨p, fun k => by simp only [fragcheck_pattern.j0]; rw [if_neg (by simp), if_neg c0, if_neg c1, if_pos c2]; exact h1 k, Ev.step (f := fun k => spandrelref20_right.j1 k ss name (name.toList == ([79, 99, 116, 101, 116, 115] : List UInt8))) (fun k => by simp only [spandrelref20_right.j0]; rw [if_neg (by simp), if_neg c0, if_neg c1, if_pos c2]) h2⟩
    obtain ⟨p, h1, h2⟩ := right_j1 ss name hs (name.toList == ([76, 105, 115, 116] : List UInt8))
    exact ⟨p, fun k => by simp only [fragcheck_pattern.j0]; rw [if_neg (by simp), if_neg c0, if_neg c1, if_neg c2]; exact h1 k, Ev.step (f := fun k => spandrelref20_right.j1 k ss name (name.toList == ([76, 105, 115, 116] : List UInt8))) (fun k => by simp only [spandrelref20_right.j0]; rw [if_neg (by simp), if_neg c0, if_neg c1, if_neg c2]) h2⟩
theorem right_f (op : Int) (ss name : ByteArray) (hs : ss.size ≤ M) : Ev (fun k => spandrelref20_right.f k op name ss) (patV ss (patB op name)) := by
  have hp : ∀ p, fragcheck_pattern.f 2 op name = some p → patB op name = p := fun p h => by rw [pat_some] at h; exact Option.some.inj h
  have e0 : patV ss (⟨#[]⟩, true) = (ss.toList == ([] : List UInt8)) := by show (true && fitsB ss.data.toList []) = _; rw [Bool.true_and, fits_nil _]; exact (beq_data ss _).symm
  have e1 : ∀ p, patV ss (p, false) = false := fun _ => rfl
  by_cases a3 : op = 3
  · have b4 : ¬ op = 4 := by omega
    have es : patV ss (⟨#[115]⟩, true) = (ss.toList == ([115] : List UInt8)) := by show (true && fitsB ss.data.toList [115]) = _; rw [Bool.true_and, fits_one 115 _]; exact (beq_data ss _).symm
    by_cases c0 : name.toList = ([72, 97, 115] : List UInt8)
    · rw [hp (⟨#[115]⟩, true) (by unfold fragcheck_pattern.f; rw [if_neg b4, if_pos a3, if_pos c0]), es]
      refine Ev.congr (f := fun _ => some _) (fun k => ?_) (Ev.now _)
      unfold spandrelref20_right.f
      rw [if_pos a3, if_pos c0]
      by_cases hss : ss.toList = ([115] : List UInt8)
      · rw [if_pos hss, beq_iff_eq.mpr hss]
      · rw [if_neg hss, if_neg (by rw [c0]; decide), beq_eq_false_iff_ne.mpr hss]
    by_cases c1 : name.toList = ([73, 115] : List UInt8)
    · rw [hp (⟨#[115]⟩, true) (by unfold fragcheck_pattern.f; rw [if_neg b4, if_pos a3, if_neg c0, if_pos c1]), es]
      refine Ev.congr (f := fun _ => some _) (fun k => ?_) (Ev.now _)
      unfold spandrelref20_right.f
      rw [if_pos a3, if_neg c0, if_pos c1]
      by_cases hss : ss.toList = ([115] : List UInt8)
      · rw [if_pos hss, beq_iff_eq.mpr hss]
      · rw [if_neg hss, if_neg (by rw [c1]; decide), beq_eq_false_iff_ne.mpr hss]
    rw [hp (⟨#[]⟩, (name.toList == ([77, 111, 114, 101] : List UInt8))) (by unfold fragcheck_pattern.f; rw [if_neg b4, if_pos a3, if_neg c0, if_neg c1])]
    by_cases c2 : name.toList = ([77, 111, 114, 101] : List UInt8)
    · rw [beq_iff_eq.mpr c2, e0]
      refine Ev.congr (f := fun _ => some _) (fun k => ?_) (Ev.now _)
      unfold spandrelref20_right.f
      rw [if_pos a3, if_neg c0, if_neg c1, if_pos c2]
    · rw [beq_eq_false_iff_ne.mpr c2, e1]
      refine Ev.congr (f := fun _ => some _) (fun k => ?_) (Ev.now _)
      unfold spandrelref20_right.f
      rw [if_pos a3, if_neg c0, if_neg c1, if_neg c2]
  by_cases a4 : op = 4
  · rw [hp (⟨#[]⟩, (name.toList == ([78, 101, 120, 116] : List UInt8))) (by unfold fragcheck_pattern.f; rw [if_pos a4])]
    by_cases c2 : name.toList = ([78, 101, 120, 116] : List UInt8)
    · rw [beq_iff_eq.mpr c2, e0]
      refine Ev.congr (f := fun _ => some _) (fun k => ?_) (Ev.now _)
      unfold spandrelref20_right.f
      rw [if_neg a3, if_pos a4, if_pos c2]
    · rw [beq_eq_false_iff_ne.mpr c2, e1]
      refine Ev.congr (f := fun _ => some _) (fun k => ?_) (Ev.now _)
      unfold spandrelref20_right.f
      rw [if_neg a3, if_pos a4, if_neg c2]
  by_cases c0 : name.toList = ([66, 111, 111, 108] : List UInt8)
  · obtain ⟨p, h1, h2⟩ := right_j0 ss name hs (name.toList == ([66, 111, 111, 108] : List UInt8))
    rw [hp p (by unfold fragcheck_pattern.f; rw [if_neg a4, if_neg a3, if_pos c0]; exact h1 0)]
    exact Ev.congr (fun k => by unfold spandrelref20_right.f; rw [if_neg a3, if_neg a4, if_pos c0]) h2
  by_cases c1 : name.toList = ([78, 117, 108, 108] : List UInt8)
  · obtain ⟨p, h1, h2⟩ := right_j0 ss name hs (name.toList == ([78, 117, 108, 108] : List UInt8))
    rw [hp p (by unfold fragcheck_pattern.f; rw [if_neg a4, if_neg a3, if_neg c0, if_pos c1]; exact h1 0)]
    exact Ev.congr (fun k => by unfold spandrelref20_right.f; rw [if_neg a3, if_neg a4, if_neg c0, if_pos c1]) h2
  by_cases c2 : name.toList = ([77, 97, 114, 107] : List UInt8)
  · obtain ⟨p, h1, h2⟩ := right_j0 ss name hs (name.toList == ([77, 97, 114, 107] : List UInt8))
    rw [hp p (by unfold fragcheck_pattern.f; rw [if_neg a4, if_neg a3, if_neg c0, if_neg c1, if_pos c2]; exact h1 0)]
    exact Ev.congr (fun k => by unfold spandrelref20_right.f; rw [if_neg a3, if_neg a4, if_neg c0, if_neg c1, if_pos c2]) h2
  by_cases c3 : name.toList = ([79, 117, 116] : List UInt8)
  · obtain ⟨p, h1, h2⟩ := right_j0 ss name hs (name.toList == ([79, 117, 116] : List UInt8))
    rw [hp p (by unfold fragcheck_pattern.f; rw [if_neg a4, if_neg a3, if_neg c0, if_neg c1, if_neg c2, if_pos c3]; exact h1 0)]
    exact Ev.congr (fun k => by unfold spandrelref20_right.f; rw [if_neg a3, if_neg a4, if_neg c0, if_neg c1, if_neg c2, if_pos c3]) h2
  by_cases c4 : name.toList = ([77, 97, 114, 107, 115] : List UInt8)
  · obtain ⟨p, h1, h2⟩ := right_j0 ss name hs (name.toList == ([77, 97, 114, 107, 115] : List UInt8))
    rw [hp p (by unfold fragcheck_pattern.f; rw [if_neg a4, if_neg a3, if_neg c0, if_neg c1, if_neg c2, if_neg c3, if_pos c4]; exact h1 0)]
    exact Ev.congr (fun k => by unfold spandrelref20_right.f; rw [if_neg a3, if_neg a4, if_neg c0, if_neg c1, if_neg c2, if_neg c3, if_pos c4]) h2
  by_cases c5 : name.toList = ([83, 104, 117, 116] : List UInt8)
  · obtain ⟨p, h1, h2⟩ := right_j0 ss name hs (name.toList == ([83, 104, 117, 116] : List UInt8))
    rw [hp p (by unfold fragcheck_pattern.f; rw [if_neg a4, if_neg a3, if_neg c0, if_neg c1, if_neg c2, if_neg c3, if_neg c4, if_pos c5]; exact h1 0)]
    exact Ev.congr (fun k => by unfold spandrelref20_right.f; rw [if_neg a3, if_neg a4, if_neg c0, if_neg c1, if_neg c2, if_neg c3, if_neg c4, if_pos c5]) h2
  by_cases c6 : name.toList = ([82, 101, 115, 116] : List UInt8)
  · obtain ⟨p, h1, h2⟩ := right_j0 ss name hs (name.toList == ([82, 101, 115, 116] : List UInt8))
    rw [hp p (by unfold fragcheck_pattern.f; rw [if_neg a4, if_neg a3, if_neg c0, if_neg c1, if_neg c2, if_neg c3, if_neg c4, if_neg c5, if_pos c6]; exact h1 0)]
    exact Ev.congr (fun k => by unfold spandrelref20_right.f; rw [if_neg a3, if_neg a4, if_neg c0, if_neg c1, if_neg c2, if_neg c3, if_neg c4, if_neg c5, if_pos c6]) h2
  by_cases c7 : name.toList = ([67, 108, 111, 115, 101] : List UInt8)
  · obtain ⟨p, h1, h2⟩ := right_j0 ss name hs (name.toList == ([67, 108, 111, 115, 101] : List UInt8))
    rw [hp p (by unfold fragcheck_pattern.f; rw [if_neg a4, if_neg a3, if_neg c0, if_neg c1, if_neg c2, if_neg c3, if_neg c4, if_neg c5, if_neg c6, if_pos c7]; exact h1 0)]
    exact Ev.congr (fun k => by unfold spandrelref20_right.f; rw [if_neg a3, if_neg a4, if_neg c0, if_neg c1, if_neg c2, if_neg c3, if_neg c4, if_neg c5, if_neg c6, if_pos c7]) h2
  obtain ⟨p, h1, h2⟩ := right_j0 ss name hs (name.toList == ([80, 105, 99, 107] : List UInt8))
  rw [hp p (by unfold fragcheck_pattern.f; rw [if_neg a4, if_neg a3, if_neg c0, if_neg c1, if_neg c2, if_neg c3, if_neg c4, if_neg c5, if_neg c6, if_neg c7]; exact h1 0)]
  exact Ev.congr (fun k => by unfold spandrelref20_right.f; rw [if_neg a3, if_neg a4, if_neg c0, if_neg c1, if_neg c2, if_neg c3, if_neg c4, if_neg c5, if_neg c6, if_neg c7]) h2

/-! ### sorts -/
def sortI (a : Arg) : Int := if a.f0 then 115 else 110
theorem sorts_ev (l : List Arg) (hl : l.length ≤ M) (n : Nat) : ∀ (i : Nat) (acc : List Int), i + n = l.length → acc.length = i → Ev (fun k => spandrelref20_sorts.l0 k l acc i) (strOfNums (acc ++ (l.drop i).map sortI)) := by
  have hM : l.length ≤ 140737488351232 := hl
  induction n with
  | zero =>
    intro i acc hi ha
    refine Ev.step (f := fun _ => some _) (fun k => ?_) (Ev.now _)
    simp only [spandrelref20_sorts.l0]
    rw [if_neg (by omega), List.drop_of_length_le (by omega), List.map_nil, List.append_nil]
  | succ n ih =>
    intro i acc hi ha
    have hlt : i < l.length := by omega
    have hg := List.getElem?_eq_getElem hlt
    have hd := List.drop_eq_getElem_cons hlt
    generalize l[i] = a at *
    have hr := rd73 hg
    have hw := wrap_nat i (by omega)
    have hn := ih (i + 1) (acc ++ [sortI a]) (by omega) (by simp [ha])
    rw [hd, List.map_cons]
    have e : acc ++ sortI a :: (l.drop (i + 1)).map sortI = (acc ++ [sortI a]) ++ (l.drop (i + 1)).map sortI := by simp
    rw [e]
    refine Ev.step (f := fun k => spandrelref20_sorts.l0 k l (acc ++ [sortI a]) ((i + 1 : Nat) : Int)) (fun k => ?_) hn
    simp only [spandrelref20_sorts.l0]
    rw [if_pos (by omega), if_pos (by omega), hr, hw]
    unfold sortI
    cases a.f0 with
    | true => rw [if_pos rfl, if_pos (by omega), if_pos rfl]
    | false => rw [if_neg (by simp), if_pos (by omega), if_neg (by simp)]
def sortsS (l : List Arg) : ByteArray := strOfNums (l.map sortI)
theorem sorts_f (l : List Arg) (hl : l.length ≤ M) : Ev (fun k => spandrelref20_sorts.f k l) (sortsS l) := by
  have h := sorts_ev l hl l.length 0 [] (by omega) rfl
  rw [List.drop_zero, List.nil_append] at h
  exact h
theorem sortsS_size (l : List Arg) : (sortsS l).size = l.length := by
  unfold sortsS
  rw [strOfNums_size, List.length_map]
theorem sortsS_list (l : List Arg) : (sortsS l).data.toList = l.map sortOf := by
  unfold sortsS
  rw [strOfNums_data, List.map_map]
  congr 1
  funext a
  show UInt8.ofNat (sortI a).toNat = sortOf a
  unfold sortI sortOf
  cases a.f0 <;> rfl
/-- What the reference asks of a statement that is no call. -/
theorem rightS_f (s : Stmt) (h : s.f2.length ≤ M) (h2 : s.f0 ≠ 2) : Ev (fun k => spandrelref20_right.f k s.f0 s.f1 (sortsS s.f2)) (typedB s) := by
  have h := right_f s.f0 (sortsS s.f2) s.f1 (by rw [sortsS_size]; exact h)
  unfold patV at h
  rw [sortsS_list] at h
  unfold typedB
  rw [if_neg h2]
  exact h
end Go.Proofs.Ytbjddomocggjmaa.Fc
