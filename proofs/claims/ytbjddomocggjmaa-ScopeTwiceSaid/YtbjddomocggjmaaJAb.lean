/- Upper, Lower of the reference of layer 7: walked. -/
import Derived.Test.YtbjddomocggjmaaJF
import Derived.Test.YtbjddomocggjmaaJY
import Derived.Test.YtbjddomocggjmaaJAa
section
namespace Go.Proofs.Ytbjddomocggjmaa.Sc
open Go.RowKit Go.ChangeShapes Go.WideShapes Go.Proofs.Ytbjddomocggjmaa.Sep
open Go.Proofs.YtbjddomocggjmaaW.PrintWords
variable {B : Nat} {w0 w : World} {R : HP}
open Go.Maps Go.ChangeMaps Go.MapKept
def MapsV : List (Nat × Kv) → HP
  | [] => emp
  | p :: l => MapV p.1 p.2 • MapsV l
theorem maps_out : ∀ {l : List (Nat × Kv)} {i : Nat} {p : Nat × Kv} {R : HP}, l[i]? = some p → St B w0 w (MapsV l • R) → St B w0 w (MapV p.1 p.2 • (MapsV (l.eraseIdx i) • R))
  | q :: l, 0, p, R, hi, h => by
    cases hi
    exact St.assoc h
  | q :: l, i + 1, p, R, hi, h => by
    have h1 := maps_out (R := MapV q.1 q.2 • R) (show l[i]? = some p from hi) (St.assoc h).two
    exact h1.two.three.assoc'.two
theorem maps_in : ∀ {l : List (Nat × Kv)} {i : Nat} {p : Nat × Kv} {m : Kv} {R : HP}, l[i]? = some p → St B w0 w (MapV p.1 m • (MapsV (l.eraseIdx i) • R)) → St B w0 w (MapsV (l.set i (p.1, m)) • R)
  | q :: l, 0, p, m, R, hi, h => by
    cases hi
    exact St.assoc' h
  | q :: l, i + 1, p, m, R, hi, h => by
    have h1 := maps_in (R := MapV q.1 q.2 • R) (show l[i]? = some p from hi) (St.assoc h.two).two.three
    exact St.assoc' h1.two
theorem maps_add : ∀ {l : List (Nat × Kv)} {b : Nat} {m : Kv} {R : HP}, St B w0 w (MapV b m • (MapsV l • R)) → St B w0 w (MapsV (l ++ [(b, m)]) • R)
  | [], b, m, R, h => St.assoc' h
  | q :: l, b, m, R, h => by
    have h1 := maps_add (b := b) (m := m) (R := MapV q.1 q.2 • R) (St.assoc h.two).two.three
    exact St.assoc' h1.two
def ownsV (l : List Md) (bs : List (Nat × Nat)) : List (Nat × Kv) := List.zipWith (fun m b => (b.2, setM (kys (dfNames m)))) l bs
def ofM (l : List Md) (bs : List (Nat × Nat)) : Kv := List.zipWith (fun m b => (m.n.data.toList, Value.agg #[.map (some b.1), .map (some b.2)])) l bs
theorem zip_get {α β γ : Type} {f : α → β → γ} {l : List α} {bs : List β} {i : Nat} {a : α} {b : β} (h1 : l[i]? = some a) (h2 : bs[i]? = some b) : (List.zipWith f l bs)[i]? = some (f a b) := by
  rw [List.getElem?_zipWith, h1, h2]
theorem ofM_look {l : List Md} {bs : List (Nat × Nat)} (hl : bs.length = l.length) (k : List UInt8) :
    (lookK (ofM l bs) k = none ∧ ∀ m ∈ l, m.n.data.toList ≠ k) ∨ ∃ (j : Nat) (m : Md) (b : Nat × Nat), l[j]? = some m ∧ bs[j]? = some b ∧ m.n.data.toList = k ∧ lookK (ofM l bs) k = some (.agg #[.map (some b.1), .map (some b.2)]) := by
  unfold lookK
  cases h : (ofM l bs).reverse.find? fun p => p.1 == k with
  | none =>
    refine .inl ⟨rfl, fun m hm e => ?_⟩
    obtain ⟨i, hi⟩ := List.getElem?_of_mem hm
    have hil := (List.getElem?_eq_some_iff.1 hi).1
    have h2 := zip_get (f := fun (m : Md) (b : Nat × Nat) => (m.n.data.toList, Value.agg #[.map (some b.1), .map (some b.2)])) hi (List.getElem?_eq_getElem (show i < bs.length by omega))
    have h3 := List.find?_eq_none.1 h _ (List.mem_reverse.2 (List.mem_of_getElem? h2))
    exact h3 (beq_iff_eq.2 e)
  | some p =>
    have h1 := List.find?_some h
    have h2 := List.mem_reverse.1 (List.mem_of_find?_eq_some h)
    obtain ⟨i, hi⟩ := List.getElem?_of_mem h2
    unfold ofM at hi
    rw [List.getElem?_zipWith] at hi
    cases h3 : l[i]? with
    | none => rw [h3] at hi; cases hi
    | some m =>
      cases h4 : bs[i]? with
      | none => rw [h3, h4] at hi; cases hi
      | some b =>
        rw [h3, h4] at hi
        cases hi
        exact .inr ⟨i, m, b, h3, h4, beq_iff_eq.1 h1, rfl⟩
theorem ownHas_none {l : List Md} {fr : ByteArray} (h : ∀ m ∈ l, m.n.data.toList ≠ fr.data.toList) (s : ByteArray) : ownHas l fr s = false := by
  unfold ownHas
  rw [List.find?_eq_none.2 fun m hm => by simpa using h m hm]
  rfl
theorem nodup_inj {α β : Type} {f : α → β} : ∀ {l : List α}, (l.map f).Nodup → ∀ {i j : Nat} {a b : α}, l[i]? = some a → l[j]? = some b → f a = f b → i = j
  | x :: l, h, i, j, a, b, hi, hj, e => by
    rw [List.map_cons, List.nodup_cons] at h
    cases i with
    | zero =>
      cases j with
      | zero => rfl
      | succ j => cases hi; exact absurd (List.mem_map.2 ⟨b, List.mem_of_getElem? (show l[j]? = some b from hj), e.symm⟩) h.1
    | succ i =>
      cases j with
      | zero => cases hj; exact absurd (List.mem_map.2 ⟨a, List.mem_of_getElem? (show l[i]? = some a from hi), e⟩) h.1
      | succ j => rw [nodup_inj h.2 (show l[i]? = some a from hi) (show l[j]? = some b from hj) e]
theorem names_inj {l : List Md} (hn : onceB (mdNames l) = true) {i j : Nat} {a b : Md} (hi : l[i]? = some a) (hj : l[j]? = some b) (e : a.n.data.toList = b.n.data.toList) : i = j := by
  have h : (l.map fun m => m.n.data.toList).Nodup := by
    have := of_decide_eq_true hn
    unfold kys mdNames at this
    rwa [List.map_map] at this
  exact nodup_inj h hi hj e
theorem ownHas_at {l : List Md} (hn : onceB (mdNames l) = true) {j : Nat} {m : Md} (hj : l[j]? = some m) {fr : ByteArray} (e : m.n.data.toList = fr.data.toList) (s : ByteArray) : ownHas l fr s = (kys (dfNames m)).contains s.data.toList := by
  unfold ownHas
  cases h : l.find? fun m => m.n.data.toList == fr.data.toList with
  | none => exact absurd (beq_iff_eq.2 e) (List.find?_eq_none.1 h m (List.mem_of_getElem? hj))
  | some m' =>
    obtain ⟨i, hi⟩ := List.getElem?_of_mem (List.mem_of_find?_eq_some h)
    have h1 : m'.n.data.toList = fr.data.toList := beq_iff_eq.1 (List.find?_some (p := fun m : Md => m.n.data.toList == fr.data.toList) h)
    have h2 := names_inj hn hi hj (h1.trans e.symm)
    subst h2
    rw [hi] at hj
    cases hj
    rfl
end Go.Proofs.Ytbjddomocggjmaa.Sc
end
section
namespace Go.Proofs.Ytbjddomocggjmaa.Sc
open Go.RowKit Go.ChangeShapes Go.WideShapes Go.Proofs.Ytbjddomocggjmaa.Sep
open Go.Proofs.YtbjddomocggjmaaW.PrintWords
variable {B : Nat} {w0 w : World} {R : HP}
open Go.Proofs.YtbjddomocggjmaaW.PrintWords
theorem rest_step {l : List UInt8} {n : Nat} {c : UInt8} (h : l[n]? = some c) : restB (l.drop n) = if al c then restB (l.drop (n + 1)) else if c = 45 then (match l.drop (n + 1) with | [] => false | d :: _ => al d && restB (l.drop (n + 1))) else false := by
  have hl := (List.getElem?_eq_some_iff.1 h).1
  rw [List.drop_eq_getElem_cons hl]
  rw [List.getElem?_eq_getElem hl] at h
  rw [Option.some.inj h]
  rfl
set_option maxHeartbeats 4000000 in
theorem rword_calls (s : ByteArray) (w : World) (hs : s.size ≤ M) :
    Calls Try.prog 97 #[.string s] w fun e w' => (∃ m : Int, e = .returned (.int .i64 m) ∧ (decide (0 < s.size) && decide (m = s.size)) = wholeB s.data.toList) ∧ w = w' := by
  have hs' : s.size ≤ 140737488355328 := hs
  by_cases h0 : s.size = 0
  · have p0 : ((s.size : Int) == 0) = true := beq_iff_eq.2 (by omega)
    have HZ : Hid (wholeB s.data.toList = false) := Lib.hid (by
      have e : s.data.toList = [] := List.eq_nil_of_length_eq_zero (by rw [size_list]; exact h0)
      rw [e]; rfl)
    go_enter Try.func97, Try.ntmps97
    go_wp2
    go_ret
    exact ⟨⟨_, rfl, by rw [HZ.out, decide_eq_false (by omega)]; rfl⟩, rfl⟩
  have p0 : ((s.size : Int) == 0) = false := beq_eq_false_iff_ne.2 (by omega)
  have p1 : (0 : Int) < s.size := by omega
  go_enter Try.func97, Try.ntmps97
  have hat : ∀ (n : Nat) (h : n < s.size), s.data.toList[n]? = some (s[n]'h) := fun n h => by
    rw [Array.getElem?_toList]
    exact Array.getElem?_eq_getElem h
  have hw : wholeB s.data.toList = (letterI (s[0]'(by omega)).toNat && restB (s.data.toList.drop 1)) := by
    have h1 := hat 0 (by omega)
    cases hl : s.data.toList with
    | nil => rw [hl] at h1; cases h1
    | cons a r => rw [hl] at h1; cases h1; rfl
  have HW := Lib.hid (And.intro hw hat)
  clear hw hat
  go_wp2_with fail
  refine (rletter_calls _ _).mono ?_
  rintro e w1 ⟨rfl, rfl⟩
  cases hq : letterI (s[0]'(by omega)).toNat with
  | false =>
    have HZ : Hid (wholeB s.data.toList = false) := Lib.hid (by rw [HW.out.1, hq]; rfl)
    go_wp2
    go_ret
    exact ⟨⟨_, rfl, by rw [HZ.out, decide_eq_false (show ¬ (0 : Int) = s.size by omega), Bool.and_false]⟩, rfl⟩
  | true =>
    have HZ : Hid (wholeB s.data.toList = restB (s.data.toList.drop 1)) := Lib.hid (by rw [HW.out.1, hq]; rfl)
    go_wp2
    go_loop [3] (fun v => ∃ x : Int, 1 ≤ x ∧ x ≤ s.size ∧ v = .int .i64 x ∧ Hid (wholeB s.data.toList = restB (s.data.toList.drop x.toNat))) (fun v => s.size - (intOf v).toNat)
    case atStart => exact ⟨1, Int.le_refl _, by omega, rfl, HZ⟩
    case round =>
      clear HZ hq
      obtain ⟨x, hx0, hx1, rfl, HX⟩ := hrel
      by_cases hlt : x < s.size
      · have q1 : (x < (s.size : Int)) = True := eq_true hlt
        have q0 : (0 ≤ x) = True := eq_true (by omega)
        have hn : x.toNat < s.size := by omega
        have e1 : (x + 1).toNat = x.toNat + 1 := by omega
        have hst := rest_step (HW.out.2 x.toNat hn)
        go_wp2_with fail
        refine (rletter_calls _ _).mono ?_
        rintro e w1 ⟨rfl, rfl⟩
        cases hl : letterI (s[x.toNat]'hn).toNat with
        | true =>
          have HY : Hid (wholeB s.data.toList = restB (s.data.toList.drop (x + 1).toNat)) := Lib.hid (by rw [HX.out, hst, e1, if_pos (by unfold al; rw [hl]; rfl)])
          clear hst
          go_wp2
          exact ⟨⟨x + 1, by omega, by omega, by go_num, HY⟩, by simp only [intOf]; omega⟩
        | false =>
          go_wp2_with fail
          refine (rdigit_calls _ _).mono ?_
          rintro e w1 ⟨rfl, rfl⟩
          cases hd : digitI (s[x.toNat]'hn).toNat with
          | true =>
            have HY : Hid (wholeB s.data.toList = restB (s.data.toList.drop (x + 1).toNat)) := Lib.hid (by rw [HX.out, hst, e1, if_pos (by unfold al; rw [hd, Bool.or_true])])
            clear hst
            go_wp2
            exact ⟨⟨x + 1, by omega, by omega, by go_num, HY⟩, by simp only [intOf]; omega⟩
          | false =>
            have hal : al (s[x.toNat]'hn) = false := by unfold al; rw [hl, hd]; rfl
            rw [if_neg (by rw [hal]; simp)] at hst
            by_cases h45 : (s[x.toNat]'hn) = 45
            · have p45 : (((s[x.toNat]'hn).toNat : Int) == 45) = true := by rw [h45]; rfl
              rw [if_pos h45] at hst
              by_cases hn1 : x + 1 < s.size
              · have q2 : (x + 1 < (s.size : Int)) = True := eq_true hn1
                have q3 : (0 ≤ x + 1) = True := eq_true (by omega)
                have q4 : (x + 1 == (s.size : Int)) = false := beq_eq_false_iff_ne.2 (by omega)
                have hm : x.toNat + 1 < s.size := by omega
                have hst2 : restB (s.data.toList.drop x.toNat) = (al (s[x.toNat + 1]'hm) && restB (s.data.toList.drop (x.toNat + 1))) := by
                  rw [hst]
                  have hd2 := HW.out.2 (x.toNat + 1) hm
                  have hl2 := (List.getElem?_eq_some_iff.1 hd2).1
                  rw [List.drop_eq_getElem_cons hl2]
                  rw [List.getElem?_eq_getElem hl2] at hd2
                  rw [Option.some.inj hd2]
                clear hst
                by_cases hd45 : (s[x.toNat + 1]'hm) = 45
                · have p46 : (((s[x.toNat + 1]'hm).toNat : Int) == 45) = true := by rw [hd45]; rfl
                  have HY : Hid (wholeB s.data.toList = false) := Lib.hid (by rw [HX.out, hst2, hd45]; rfl)
                  clear hst2
                  go_wp2
                  go_ret
                  exact ⟨⟨_, rfl, by rw [HY.out]; first | exact decide_eq_false (by omega) | rw [decide_eq_false (by omega : ¬ (_ : Int) = s.size), Bool.and_false]⟩, rfl⟩
                · have p46 : (((s[x.toNat + 1]'hm).toNat : Int) == 45) = false := beq_eq_false_iff_ne.2 (fun h => hd45 (UInt8.toNat_inj.1 (by simpa using (by omega : (s[x.toNat + 1]'hm).toNat = 45))))
                  go_wp2_with fail
                  refine (rletter_calls _ _).mono ?_
                  rintro e w1 ⟨rfl, rfl⟩
                  cases hl2 : letterI (s[x.toNat + 1]'hm).toNat with
                  | true =>
                    have HY : Hid (wholeB s.data.toList = restB (s.data.toList.drop (x + 1).toNat)) := Lib.hid (by rw [HX.out, hst2, e1, show al (s[x.toNat + 1]'hm) = true by unfold al; rw [hl2]; rfl, Bool.true_and])
                    clear hst2
                    go_wp2
                    exact ⟨⟨x + 1, by omega, by omega, by go_num, HY⟩, by simp only [intOf]; omega⟩
                  | false =>
                    go_wp2_with fail
                    refine (rdigit_calls _ _).mono ?_
                    rintro e w1 ⟨rfl, rfl⟩
                    cases hg2 : digitI (s[x.toNat + 1]'hm).toNat with
                    | true =>
                      have HY : Hid (wholeB s.data.toList = restB (s.data.toList.drop (x + 1).toNat)) := Lib.hid (by rw [HX.out, hst2, e1, show al (s[x.toNat + 1]'hm) = true by unfold al; rw [hg2, Bool.or_true], Bool.true_and])
                      clear hst2
                      go_wp2
                      exact ⟨⟨x + 1, by omega, by omega, by go_num, HY⟩, by simp only [intOf]; omega⟩
                    | false =>
                      have HY : Hid (wholeB s.data.toList = false) := Lib.hid (by rw [HX.out, hst2, show al (s[x.toNat + 1]'hm) = false by unfold al; rw [hl2, hg2]; rfl, Bool.false_and])
                      clear hst2
                      go_wp2
                      go_ret
                      exact ⟨⟨_, rfl, by rw [HY.out]; first | exact decide_eq_false (by omega) | rw [decide_eq_false (by omega : ¬ (_ : Int) = s.size), Bool.and_false]⟩, rfl⟩
              · have q2 : (x + 1 < (s.size : Int)) = False := eq_false hn1
                have q4 : (x + 1 == (s.size : Int)) = true := beq_iff_eq.2 (by omega)
                have HY : Hid (wholeB s.data.toList = false) := Lib.hid (by rw [HX.out, hst, List.drop_of_length_le (by rw [size_list]; omega)])
                clear hst
                go_wp2
                go_ret
                exact ⟨⟨_, rfl, by rw [HY.out]; first | exact decide_eq_false (by omega) | rw [decide_eq_false (by omega : ¬ (_ : Int) = s.size), Bool.and_false]⟩, rfl⟩
            · have p45 : (((s[x.toNat]'hn).toNat : Int) == 45) = false := beq_eq_false_iff_ne.2 (fun h => h45 (UInt8.toNat_inj.1 (by simpa using (by omega : (s[x.toNat]'hn).toNat = 45))))
              have p45' : (((s[x.toNat]'hn).toNat : Int) = 45) = False := eq_false (fun h => h45 (UInt8.toNat_inj.1 (by simpa using (by omega : (s[x.toNat]'hn).toNat = 45))))
              have HY : Hid (wholeB s.data.toList = false) := Lib.hid (by rw [HX.out, hst, if_neg h45])
              clear hst
              go_wp2
              go_ret
              exact ⟨⟨_, rfl, by rw [HY.out]; first | exact decide_eq_false (by omega) | rw [decide_eq_false (by omega : ¬ (_ : Int) = s.size), Bool.and_false]⟩, rfl⟩
      · have hlt' : (x < (s.size : Int)) = False := eq_false hlt
        have HY : Hid (wholeB s.data.toList = true) := Lib.hid (by rw [HX.out, List.drop_of_length_le (by rw [size_list]; omega)]; rfl)
        go_wp2
        go_ret
        exact ⟨⟨_, rfl, by rw [HY.out]; exact decide_eq_true (by omega)⟩, rfl⟩
end Go.Proofs.Ytbjddomocggjmaa.Sc
end
section
namespace Go.Proofs.Ytbjddomocggjmaa.Sc
open Go.RowKit Go.ChangeShapes Go.WideShapes Go.Proofs.Ytbjddomocggjmaa.Sep
open Go.Proofs.YtbjddomocggjmaaW.PrintWords
variable {B : Nat} {w0 w : World} {R : HP}
set_option maxHeartbeats 4000000 in
theorem rupper_calls (s : ByteArray) (w : World) (hs : s.size ≤ M) : Calls Try.prog 55 #[.string s] w fun e w' => e = .returned (.bool (upperB s.data.toList)) ∧ w = w' := by
  have HW := Lib.hid (rword_calls s w hs)
  have hs' : s.size ≤ 140737488355328 := hs
  by_cases h0 : s.size = 0
  · have p0 : decide (0 < s.size) = false := decide_eq_false (by omega)
    have p0' : (0 < s.size) = False := eq_false (by omega)
    have HZ : Hid (upperB s.data.toList = false) := Lib.hid (by
      have e : s.data.toList = [] := List.eq_nil_of_length_eq_zero (by rw [size_list]; exact h0)
      rw [e]; rfl)
    clear h0
    go_enter Try.func55, Try.ntmps55
    go_wp2
    go_ret
    exact ⟨by rw [HZ.out]; rfl, rfl⟩
  have h1 : 0 < s.size := by omega
  have p0 : decide (0 < s.size) = true := decide_eq_true h1
  have p0' : (0 < s.size) = True := eq_true h1
  have hh : headI s.data.toList = ((s[0]'h1).toNat : Int) := by
    have h2 : s.data.toList[0]? = some (s[0]'h1) := by
      rw [Array.getElem?_toList]
      exact Array.getElem?_eq_getElem h1
    cases hl : s.data.toList with
    | nil => rw [hl] at h2; cases h2
    | cons a r => rw [hl] at h2; cases h2; rfl
  have HH := Lib.hid hh
  clear hh
  go_enter Try.func55, Try.ntmps55
  go_wp2_with fail
  refine HW.out.mono ?_
  rintro e w1 ⟨⟨m, rfl, hm⟩, rfl⟩
  rw [decide_eq_true h1, Bool.true_and] at hm
  by_cases hq : m = s.size
  · have p1 : (m == (s.size : Int)) = true := beq_iff_eq.2 hq
    rw [decide_eq_true hq] at hm
    have HM := Lib.hid hm
    subst hq
    clear hm
    by_cases hc : ((s[0]'h1).toNat : Int) < 97
    · have p2 : decide (((s[0]'h1).toNat : Int) < 97) = true := decide_eq_true hc
      have p2' : (((s[0]'h1).toNat : Int) < 97) = True := eq_true hc
      have HZ : Hid (upperB s.data.toList = true) := Lib.hid (by unfold upperB; rw [← HM.out, HH.out, p2]; rfl)
      go_wp2
      go_ret
      exact ⟨by rw [HZ.out]; rfl, rfl⟩
    · have p2 : decide (((s[0]'h1).toNat : Int) < 97) = false := decide_eq_false hc
      have p2' : (((s[0]'h1).toNat : Int) < 97) = False := eq_false hc
      have HZ : Hid (upperB s.data.toList = false) := Lib.hid (by unfold upperB; rw [← HM.out, HH.out, p2]; rfl)
      go_wp2
      go_ret
      exact ⟨by rw [HZ.out]; rfl, rfl⟩
  · have p1 : (m == (s.size : Int)) = false := beq_eq_false_iff_ne.2 hq
    rw [decide_eq_false hq] at hm
    have HZ : Hid (upperB s.data.toList = false) := Lib.hid (by unfold upperB; rw [← hm]; rfl)
    clear hm hq
    go_wp2
    go_ret
    exact ⟨by rw [HZ.out]; rfl, rfl⟩
set_option maxHeartbeats 4000000 in
theorem rlower_calls (s : ByteArray) (w : World) (hs : s.size ≤ M) : Calls Try.prog 99 #[.string s] w fun e w' => e = .returned (.bool (lowerB s.data.toList)) ∧ w = w' := by
  have HW := Lib.hid (rword_calls s w hs)
  have hs' : s.size ≤ 140737488355328 := hs
  by_cases h0 : s.size = 0
  · have p0 : decide (0 < s.size) = false := decide_eq_false (by omega)
    have p0' : (0 < s.size) = False := eq_false (by omega)
    have HZ : Hid (lowerB s.data.toList = false) := Lib.hid (by
      have e : s.data.toList = [] := List.eq_nil_of_length_eq_zero (by rw [size_list]; exact h0)
      rw [e]; rfl)
    clear h0
    go_enter Try.func99, Try.ntmps99
    go_wp2
    go_ret
    exact ⟨by rw [HZ.out]; rfl, rfl⟩
  have h1 : 0 < s.size := by omega
  have p0 : decide (0 < s.size) = true := decide_eq_true h1
  have p0' : (0 < s.size) = True := eq_true h1
  have hh : headI s.data.toList = ((s[0]'h1).toNat : Int) := by
    have h2 : s.data.toList[0]? = some (s[0]'h1) := by
      rw [Array.getElem?_toList]
      exact Array.getElem?_eq_getElem h1
    cases hl : s.data.toList with
    | nil => rw [hl] at h2; cases h2
    | cons a r => rw [hl] at h2; cases h2; rfl
  have HH := Lib.hid hh
  clear hh
  go_enter Try.func99, Try.ntmps99
  go_wp2_with fail
  refine HW.out.mono ?_
  rintro e w1 ⟨⟨m, rfl, hm⟩, rfl⟩
  rw [decide_eq_true h1, Bool.true_and] at hm
  by_cases hq : m = s.size
  · have p1 : (m == (s.size : Int)) = true := beq_iff_eq.2 hq
    rw [decide_eq_true hq] at hm
    have HM := Lib.hid hm
    subst hq
    clear hm
    by_cases hc : (97 : Int) ≤ (s[0]'h1).toNat
    · have p2 : decide ((97 : Int) ≤ (s[0]'h1).toNat) = true := decide_eq_true hc
      have p2' : ((97 : Int) ≤ (s[0]'h1).toNat) = True := eq_true hc
      have HZ : Hid (lowerB s.data.toList = true) := Lib.hid (by unfold lowerB; rw [← HM.out, HH.out, p2]; rfl)
      go_wp2
      go_ret
      exact ⟨by rw [HZ.out]; rfl, rfl⟩
    · have p2 : decide ((97 : Int) ≤ (s[0]'h1).toNat) = false := decide_eq_false hc
      have p2' : ((97 : Int) ≤ (s[0]'h1).toNat) = False := eq_false hc
      have HZ : Hid (lowerB s.data.toList = false) := Lib.hid (by unfold lowerB; rw [← HM.out, HH.out, p2]; rfl)
      go_wp2
      go_ret
      exact ⟨by rw [HZ.out]; rfl, rfl⟩
  · have p1 : (m == (s.size : Int)) = false := beq_eq_false_iff_ne.2 hq
    rw [decide_eq_false hq] at hm
    have HZ : Hid (lowerB s.data.toList = false) := Lib.hid (by unfold lowerB; rw [← hm]; rfl)
    clear hm hq
    go_wp2
    go_ret
    exact ⟨by rw [HZ.out]; rfl, rfl⟩
end Go.Proofs.Ytbjddomocggjmaa.Sc
end
