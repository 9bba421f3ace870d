/- The reference of layer 11, plain: what the printed functions place, starts and of answer. -/
import Derived.Test.YtkidoggmlafkgaaPofx2
import Derived.Test.YtkidoggmlafkgaaSpanM
import Derived.Lib.Hide
namespace Go.Proofs.Ytkidoggmlafkgaa.Span
open Go.RowKit Go.Proofs.YtkidoggmlafkgaaW.PrintWords Go.Proofs.YtkidoggmlafkgaaW.PrintMore

theorem wrap_in {x : Int} (h0 : -9223372036854775808 ≤ x) (h1 : x ≤ 9223372036854775807) : wrap64 x = x := by
  unfold wrap64
  omega

/-- A number put among numbers that rise. -/
def putN : List Int → Int → List Int
  | [], n => [n]
  | x :: l, n => if x < n then x :: putN l n else if x = n then x :: l else n :: x :: l
theorem mem_putN (l : List Int) (n m : Int) : m ∈ putN l n ↔ m ∈ l ∨ m = n := by
  induction l with
  | nil => simp [putN]
  | cons x l ih =>
    unfold putN
    split
    · simp only [List.mem_cons, ih]
      constructor
      · rintro (h | h | h)
        · exact .inl (.inl h)
        · exact .inl (.inr h)
        · exact .inr h
      · rintro ((h | h) | h)
        · exact .inl h
        · exact .inr (.inl h)
        · exact .inr (.inr h)
    · split
      · rename_i h
        simp only [List.mem_cons]
        constructor
        · exact .inl
        · rintro (h1 | h1)
          · exact h1
          · exact .inl (h1.trans h.symm)
      · simp only [List.mem_cons]
        constructor
        · rintro (h | h)
          · exact .inr h
          · exact .inl h
        · rintro (h | h)
          · exact .inr h
          · exact .inl h
theorem putN_rises {l : List Int} (h : l.Pairwise (· < ·)) (n : Int) : (putN l n).Pairwise (· < ·) := by
  induction l with
  | nil => simp [putN]
  | cons x l ih =>
    obtain ⟨h1, h2⟩ := List.pairwise_cons.1 h
    unfold putN
    split
    · rename_i hx
      refine List.pairwise_cons.2 ⟨fun y hy => ?_, ih h2⟩
      rcases (mem_putN l n y).1 hy with hy | hy
      · exact h1 y hy
      · rw [hy]; exact hx
    · split
      · exact h
      · refine List.pairwise_cons.2 ⟨fun y hy => ?_, h⟩
        rcases List.mem_cons.1 hy with hy | hy
        · rw [hy]; omega
        · have := h1 y hy
          omega
theorem putN_length (l : List Int) (n : Int) : (putN l n).length ≤ l.length + 1 := by
  induction l with
  | nil => simp [putN]
  | cons x l ih =>
    unfold putN
    split
    · simp only [List.length_cons]; omega
    · split <;> simp
def toS (r : Rg) : Pof.S32 := ⟨r.1, r.2⟩
theorem rd_toS (s : List Rg) (i : Nat) (r : Rg) (h : s[i]? = some r) : Pof.rd_T32 (s.map toS) i = toS r := by
  unfold Pof.rd_T32
  rw [List.getD_eq_getElem?_getD, show ((i : Int)).toNat = i from by omega, List.getElem?_map, h]
  rfl
theorem rd_at (l : List Int) (i : Nat) (x : Int) (h : l[i]? = some x) : rd l i = x := by
  unfold rd
  rw [List.getD_eq_getElem?_getD, show ((i : Int)).toNat = i from by omega, h]
  rfl
theorem drop_at {α : Type} {l : List α} {i : Nat} {x : α} (h : l[i]? = some x) : l.drop i = x :: l.drop (i + 1) := by
  obtain ⟨hi, e⟩ := List.getElem?_eq_some_iff.1 h
  rw [← e]
  exact List.drop_eq_getElem_cons hi
theorem place_ev (l : List Int) (n : Int) (hl : l.length ≤ 1000000) (d : Nat) : ∀ i : Nat, i + d = l.length → Ev (fun k => Pof.spandrelref11_place.l0 k l n i) (l.take i ++ putN (l.drop i) n) := by
  induction d with
  | zero =>
    intro i hi
    refine Ev.step (f := fun _ => some (l.take i ++ putN (l.drop i) n)) (fun k => ?_) (Ev.now _)
    have h1 : l.take i = l := List.take_of_length_le (by omega)
    have h2 : l.drop i = [] := List.drop_of_length_le (by omega)
    simp only [Pof.spandrelref11_place.l0]
    rw [if_neg (by omega), if_pos (by omega), if_pos (by omega), show ((i : Int)).toNat = i from by omega, h1, h2]
    simp only [Option.bind_some, List.nil_append, List.append_nil, List.length_nil, Nat.zero_add, List.length_append, List.length_singleton, Nat.add_zero]
    rw [if_pos (by omega), if_pos (by omega), if_pos (by omega)]
    rfl
  | succ d ih =>
    intro i hi
    obtain ⟨x, hx⟩ : ∃ x, l[i]? = some x := ⟨_, List.getElem?_eq_getElem (by omega)⟩
    have hr := rd_at l i x hx
    have hd := drop_at hx
    by_cases h1 : x < n
    · have h := ih (i + 1) (by omega)
      rw [List.take_add_one, hx] at h
      refine Ev.step (f := fun k => Pof.spandrelref11_place.l0 k l n ((i + 1 : Nat) : Int)) (fun k => ?_) ?_
      · simp only [Pof.spandrelref11_place.l0]
        rw [if_pos (by omega), if_pos (by omega), hr, if_pos h1, wrap_in (by omega) (by omega)]
        rfl
      · rw [hd]
        unfold putN
        rw [if_pos h1]
        simpa using h
    · by_cases h2 : x = n
      · refine Ev.step (f := fun _ => some (l.take i ++ putN (l.drop i) n)) (fun k => ?_) (Ev.now _)
        simp only [Pof.spandrelref11_place.l0]
        rw [if_pos (by omega), if_pos (by omega), hr, if_neg h1, if_pos h2, hd]
        unfold putN
        rw [if_neg h1, if_pos h2, ← hd, List.take_append_drop]
      · refine Ev.step (f := fun _ => some (l.take i ++ putN (l.drop i) n)) (fun k => ?_) (Ev.now _)
        have ht : (l.take i).length ≤ l.length := by rw [List.length_take]; omega
        have hd2 : (l.drop i).length ≤ l.length := by rw [List.length_drop]; omega
        simp only [Pof.spandrelref11_place.l0]
        rw [if_pos (by omega), if_pos (by omega), hr, if_neg h1, if_neg h2, if_pos (by omega), show ((i : Int)).toNat = i from by omega]
        simp only [Option.bind_some, List.nil_append, List.length_nil, Nat.zero_add, List.length_append, List.length_singleton]
        rw [if_pos (by omega), if_pos (by omega), if_pos (by omega), hd]
        unfold putN
        rw [if_neg h1, if_neg h2]
        simp
theorem place_f (l : List Int) (n : Int) (hl : l.length ≤ 1000000) : Ev (fun k => Pof.spandrelref11_place.f k l n) (putN l n) := by
  have h := place_ev l n hl l.length 0 (by omega)
  rw [List.take_zero, List.drop_zero, List.nil_append] at h
  exact h

/-- One range's two cuts. -/
def cutR (l : List Int) (r : Rg) : List Int := if r.1 ≤ r.2 then (if r.2 < maxI then putN (putN l r.1) (r.2 + 1) else putN l r.1) else l
theorem cutR_length (l : List Int) (r : Rg) : (cutR l r).length ≤ l.length + 2 := by
  unfold cutR
  split
  · split
    · have := putN_length (putN l r.1) (r.2 + 1)
      have := putN_length l r.1
      omega
    · have := putN_length l r.1
      omega
  · omega
theorem cutR_rises {l : List Int} (h : l.Pairwise (· < ·)) (r : Rg) : (cutR l r).Pairwise (· < ·) := by
  unfold cutR
  split
  · split
    · exact putN_rises (putN_rises h _) _
    · exact putN_rises h _
  · exact h
theorem mem_cutR (l : List Int) (r : Rg) (m : Int) : m ∈ cutR l r ↔ m ∈ l ∨ (r.1 ≤ r.2 ∧ (m = r.1 ∨ r.2 < maxI ∧ m = r.2 + 1)) := by
  unfold cutR
  split
  · rename_i h
    split
    · rename_i h2
      rw [mem_putN, mem_putN]
      constructor
      · rintro ((a | a) | a)
        · exact .inl a
        · exact .inr ⟨h, .inl a⟩
        · exact .inr ⟨h, .inr ⟨h2, a⟩⟩
      · rintro (a | ⟨_, a | ⟨_, a⟩⟩)
        · exact .inl (.inl a)
        · exact .inl (.inr a)
        · exact .inr a
    · rename_i h2
      rw [mem_putN]
      constructor
      · rintro (a | a)
        · exact .inl a
        · exact .inr ⟨h, .inl a⟩
      · rintro (a | ⟨_, a | ⟨b, _⟩⟩)
        · exact .inl a
        · exact .inr a
        · exact absurd b h2
  · rename_i h
    constructor
    · exact .inl
    · rintro (a | ⟨b, _⟩)
      · exact a
      · exact absurd b h
def cutsR (l : List Int) (s : List Rg) : List Int := s.foldl cutR l
theorem cutsR_nil (l : List Int) : cutsR l [] = l := rfl
theorem cutsR_cons (l : List Int) (r : Rg) (s : List Rg) : cutsR l (r :: s) = cutsR (cutR l r) s := rfl
theorem cutsR_length (s : List Rg) : ∀ l, (cutsR l s).length ≤ l.length + 2 * s.length := by
  induction s with
  | nil => intro l; simp [cutsR]
  | cons r s ih =>
    intro l
    have h1 := ih (cutR l r)
    have h2 := cutR_length l r
    show (cutsR (cutR l r) s).length ≤ _
    simp only [List.length_cons]
    omega
theorem cutsR_rises (s : List Rg) : ∀ {l : List Int}, l.Pairwise (· < ·) → (cutsR l s).Pairwise (· < ·) := by
  induction s with
  | nil => intro l h; exact h
  | cons r s ih => intro l h; exact ih (cutR_rises h r)
theorem mem_cutsR (s : List Rg) (m : Int) : ∀ l : List Int, m ∈ cutsR l s ↔ m ∈ l ∨ ∃ r ∈ s, r.1 ≤ r.2 ∧ (m = r.1 ∨ r.2 < maxI ∧ m = r.2 + 1) := by
  induction s with
  | nil => intro l; simp [cutsR]
  | cons r s ih =>
    intro l
    show m ∈ cutsR (cutR l r) s ↔ _
    rw [ih, mem_cutR]
    constructor
    · rintro ((a | a) | ⟨q, h1, h2⟩)
      · exact .inl a
      · exact .inr ⟨r, List.mem_cons_self, a⟩
      · exact .inr ⟨q, List.mem_cons_of_mem _ h1, h2⟩
    · rintro (a | ⟨q, h1, h2⟩)
      · exact .inl (.inl a)
      · rcases List.mem_cons.1 h1 with rfl | h1
        · exact .inl (.inr h2)
        · exact .inr ⟨q, h1, h2⟩
attribute [irreducible] putN cutR cutsR
theorem starts_ev (s : List Rg) (hs : s.length ≤ 100000) (ho : ∀ r ∈ s, okR r) (d : Nat) : ∀ (i : Nat) (l : List Int), i + d = s.length → l.length ≤ 500000 + 2 * i → Ev (fun k => Pof.spandrelref11_starts.l0 k l (s.map toS) i) (cutsR l (s.drop i)) := by
  induction d with
  | zero =>
    intro i l hi hl
    refine Ev.step (f := fun _ => some (cutsR l (s.drop i))) (fun k => ?_) (Ev.now _)
    rw [List.drop_of_length_le (by omega), cutsR_nil]
    simp only [Pof.spandrelref11_starts.l0]
    rw [if_neg (by rw [List.length_map]; omega)]
  | succ d ih =>
    intro i l hi hl
    obtain ⟨r, hr⟩ : ∃ r, s[i]? = some r := ⟨_, List.getElem?_eq_getElem (by omega)⟩
    have hrd := rd_toS s i r hr
    have hd := drop_at hr
    have hok := ho r (List.mem_of_getElem? hr)
    simp only [okR, minI, maxI] at hok
    have e1 : (toS r).f0 = r.1 := rfl
    have e2 : (toS r).f1 = r.2 := rfl
    have hcl := cutR_length l r
    have hnext := ih (i + 1) (cutR l r) (by omega) (by omega)
    have hp1 := putN_length l r.1
    rw [hd, cutsR_cons]
    have hw : Hid (wrap64 ((i : Int) + 1) = ((i + 1 : Nat) : Int)) := Lib.hid (by rw [wrap_in (by omega) (by omega)]; rfl)
    by_cases h1 : r.1 ≤ r.2
    · by_cases h2 : r.2 < 9223372036854775807
      · have ec : cutR l r = putN (putN l r.1) (r.2 + 1) := by
          unfold cutR
          rw [if_pos h1, if_pos (show r.2 < maxI from h2)]
        refine Ev.step (f := fun k => (Pof.spandrelref11_place.f k l r.1).bind fun t => (Pof.spandrelref11_place.f k t (r.2 + 1)).bind fun t2 => Pof.spandrelref11_starts.l0 k t2 (s.map toS) ((i + 1 : Nat) : Int)) (fun k => ?_) ?_
        · simp only [Pof.spandrelref11_starts.l0]
          rw [if_pos (by rw [List.length_map]; omega), if_pos (by omega), hrd, e1, e2, if_pos h1, hw.out, wrap_in (by omega) (by omega)]
          simp only [if_pos h2]
        · refine Ev.bind (f := fun k t => (Pof.spandrelref11_place.f k t (r.2 + 1)).bind fun t2 => Pof.spandrelref11_starts.l0 k t2 (s.map toS) ((i + 1 : Nat) : Int)) (place_f l r.1 (by omega)) ?_
          refine Ev.bind (f := fun k t2 => Pof.spandrelref11_starts.l0 k t2 (s.map toS) ((i + 1 : Nat) : Int)) (place_f _ (r.2 + 1) (by omega)) ?_
          rw [← ec]
          exact hnext
      · have ec : cutR l r = putN l r.1 := by
          unfold cutR
          rw [if_pos h1, if_neg (show ¬ r.2 < maxI from h2)]
        refine Ev.step (f := fun k => (Pof.spandrelref11_place.f k l r.1).bind fun t2 => Pof.spandrelref11_starts.l0 k t2 (s.map toS) ((i + 1 : Nat) : Int)) (fun k => ?_) ?_
        · simp only [Pof.spandrelref11_starts.l0]
          rw [if_pos (by rw [List.length_map]; omega), if_pos (by omega), hrd, e1, e2, if_pos h1, hw.out]
          simp only [if_neg h2]
        · refine Ev.bind (f := fun k t2 => Pof.spandrelref11_starts.l0 k t2 (s.map toS) ((i + 1 : Nat) : Int)) (place_f l r.1 (by omega)) ?_
          rw [← ec]
          exact hnext
    · have ec : cutR l r = l := by
        unfold cutR
        rw [if_neg h1]
      refine Ev.step (f := fun k => Pof.spandrelref11_starts.l0 k l (s.map toS) ((i + 1 : Nat) : Int)) (fun k => ?_) ?_
      · simp only [Pof.spandrelref11_starts.l0]
        rw [if_pos (by rw [List.length_map]; omega), if_pos (by omega), hrd, e1, e2, if_neg h1, hw.out]
      · rw [ec] at hnext ⊢
        exact hnext
theorem starts_f (l : List Int) (s : List Rg) (hs : s.length ≤ 100000) (hl : l.length ≤ 500000) (ho : ∀ r ∈ s, okR r) : Ev (fun k => Pof.spandrelref11_starts.f k l (s.map toS)) (cutsR l s) := starts_ev s hs ho s.length 0 l (by omega) (by omega)
theorem hasL_ev (s : List Rg) (hs : s.length ≤ 1000000000) (n : Int) (d : Nat) : ∀ i : Nat, i + d = s.length → Ev (fun k => Pof.spandrelref11_Has.l0 k (s.map toS) n i) (hasB (s.drop i) n) := by
  induction d with
  | zero =>
    intro i hi
    refine Ev.step (f := fun _ => some (hasB (s.drop i) n)) (fun k => ?_) (Ev.now _)
    rw [List.drop_of_length_le (by omega)]
    simp only [Pof.spandrelref11_Has.l0]
    rw [if_neg (by rw [List.length_map]; omega)]
    rfl
  | succ d ih =>
    intro i hi
    obtain ⟨r, hr⟩ : ∃ r, s[i]? = some r := ⟨_, List.getElem?_eq_getElem (by omega)⟩
    have hrd := rd_toS s i r hr
    have hd := drop_at hr
    have e1 : (toS r).f0 = r.1 := rfl
    have e2 : (toS r).f1 = r.2 := rfl
    have hnext := ih (i + 1) (by omega)
    have hw : Hid (wrap64 ((i : Int) + 1) = ((i + 1 : Nat) : Int)) := Lib.hid (by rw [wrap_in (by omega) (by omega)]; rfl)
    rw [hd, hasB_cons]
    by_cases h1 : r.1 ≤ n ∧ n ≤ r.2
    · rw [inR_eq.2 h1]
      refine Ev.step (f := fun _ => some true) (fun k => ?_) (Ev.now _)
      simp only [Pof.spandrelref11_Has.l0]
      rw [if_pos (by rw [List.length_map]; omega), if_pos (by omega), hrd, e1, e2, if_pos h1.1, if_pos h1.2]
    · rw [inR_false (by omega), Bool.false_or]
      refine Ev.step (f := fun k => Pof.spandrelref11_Has.l0 k (s.map toS) n ((i + 1 : Nat) : Int)) (fun k => ?_) hnext
      simp only [Pof.spandrelref11_Has.l0]
      rw [if_pos (by rw [List.length_map]; omega), if_pos (by omega), hrd, e1, e2, hw.out]
      by_cases h2 : r.1 ≤ n
      · rw [if_pos h2, if_neg (by omega)]
      · rw [if_neg h2]
theorem has_f (s : List Rg) (hs : s.length ≤ 1000000000) (n : Int) : Ev (fun k => Pof.spandrelref11_Has.f k (s.map toS) n) (hasB s n) := hasL_ev s hs n s.length 0 (by omega)

/-- What is asked of a piece: op 0: in one of both; 1: in both; 2: in the first alone. -/
def askB (op : Int) (x y : Bool) : Bool := if op = 0 then x || y else if op = 1 then x && y else x && !y
theorem ask_flag (k : Nat) (x0 x1 : List Pof.S32) (op : Int) (L : List Int) (out : List Pof.S32) (i : Int) (hop : op = 0 ∨ op = 1 ∨ op = 2) (h0 : i < (L.length : Int)) (h1 : 0 ≤ i) :
    Pof.spandrelref11_of.l0 (k + 1) x0 x1 op L out i = (Pof.spandrelref11_Has.f k x0 (rd L i)).bind fun x => (Pof.spandrelref11_Has.f k x1 (rd L i)).bind fun y => Pof.spandrelref11_of.j1 k x0 x1 op L out i (!(askB op x y)) := by
  simp only [Pof.spandrelref11_of.l0]
  rw [if_pos h0, if_pos h1]
  congr 1
  funext x
  congr 1
  funext y
  rcases hop with rfl | rfl | rfl <;> cases x <;> cases y <;> rfl
theorem set_last (pre : List Rg) (l r : Rg) : ((pre ++ [l]).map toS).set pre.length (toS r) = (pre ++ [r]).map toS := by
  rw [List.map_append, List.map_append, List.set_append_right _ _ (by simp)]
  simp
theorem nil_or_snoc' {α : Type} (l : List α) : l = [] ∨ ∃ pre x, l = pre ++ [x] := by
  rcases List.eq_nil_or_concat l with h | ⟨p, x, h⟩
  · exact .inl h
  · exact .inr ⟨p, x, by rw [h, List.concat_eq_append]⟩
/-- The cut at a place; behind the last one: what is behind all numbers. -/
@[irreducible] def cutAt (L : List Int) (i : Nat) : Int := (L[i]?).getD (maxI + 1)
/-- What stands when the pieces ahead of place i are passed. -/
structure OfInv (f : Int → Bool) (L : List Int) (i : Nat) (out : List Rg) : Prop where
  right : rightFrom (minI - 1) out
  last : endB (minI - 1) out ≤ cutAt L i
  has : ∀ n, minI ≤ n → n ≤ maxI → hasB out n = (decide (n < cutAt L i) && f n)
  ok : ∀ r ∈ out, okR r
  len : out.length ≤ i
theorem OfInv.skip {f : Int → Bool} {L : List Int} {i : Nat} {out : List Rg} {x : Int} (h : OfInv f L i out) (hx : cutAt L i = x) (hxy : x < cutAt L (i + 1)) (hf : ∀ n, x ≤ n → n < cutAt L (i + 1) → f n = false) : OfInv f L (i + 1) out where
  right := h.right
  last := by have := h.last; omega
  has n h1 h2 := by
    rw [h.has n h1 h2, hx]
    by_cases c : n < x
    · rw [decide_eq_true c, decide_eq_true (show n < cutAt L (i + 1) by omega)]
    · rw [decide_eq_false c]
      by_cases c2 : n < cutAt L (i + 1)
      · rw [hf n (by omega) c2]; simp
      · rw [decide_eq_false c2]
  ok := h.ok
  len := by have := h.len; omega
theorem has_more {f : Int → Bool} {x y : Int} (b : Bool) (n : Int) (hb : b = (decide (n < x) && f n)) (hxy : x < y) (hf : x ≤ n → n < y → f n = true) : (b || (decide (x ≤ n) && decide (n ≤ y - 1))) = (decide (n < y) && f n) := by
  subst hb
  by_cases c : n < x
  · rw [decide_eq_true c, decide_eq_true (show n < y by omega), decide_eq_false (show ¬ x ≤ n by omega)]
    simp
  · rw [decide_eq_false c, decide_eq_true (show x ≤ n by omega)]
    by_cases c2 : n < y
    · rw [hf (by omega) c2, decide_eq_true c2, decide_eq_true (show n ≤ y - 1 by omega)]; rfl
    · rw [decide_eq_false c2, decide_eq_false (show ¬ n ≤ y - 1 by omega)]; rfl
theorem OfInv.push {f : Int → Bool} {L : List Int} {i : Nat} {out : List Rg} {x y : Int} (h : OfInv f L i out) (hx : cutAt L i = x) (hy : cutAt L (i + 1) = y) (hxy : x < y) (hxl : minI ≤ x) (hyh : y ≤ maxI + 1) (he : endB (minI - 1) out < x) (hf : ∀ n, x ≤ n → n < y → f n = true) : OfInv f L (i + 1) (out ++ [(x, y - 1)]) where
  right := (rightFrom_snoc _ _ _).2 ⟨h.right, he, by simp only; omega⟩
  last := by rw [endB_snoc, hy]; simp only; omega
  has n h1 h2 := by
    rw [hasB_snoc, hy]
    exact has_more _ n (by rw [h.has n h1 h2, hx]) hxy (hf n)
  ok r hr := by
    rcases List.mem_append.1 hr with hr | hr
    · exact h.ok r hr
    · obtain rfl := List.mem_singleton.1 hr
      unfold okR
      simp only
      omega
  len := by have := h.len; simp; omega
theorem OfInv.grow {f : Int → Bool} {L : List Int} {i : Nat} {pre : List Rg} {l : Rg} {x y : Int} (h : OfInv f L i (pre ++ [l])) (hx : cutAt L i = x) (hy : cutAt L (i + 1) = y) (hxy : x < y) (hyh : y ≤ maxI + 1) (he : l.2 = x - 1) (hf : ∀ n, x ≤ n → n < y → f n = true) : OfInv f L (i + 1) (pre ++ [(l.1, y - 1)]) where
  right := by
    obtain ⟨h1, h2, h3⟩ := (rightFrom_snoc _ _ _).1 h.right
    exact (rightFrom_snoc _ _ _).2 ⟨h1, h2, by simp only; omega⟩
  last := by rw [endB_snoc, hy]; simp only; omega
  has n h1 h2 := by
    obtain ⟨h3, h4, h5⟩ := (rightFrom_snoc _ _ _).1 h.right
    rw [hy, ← has_more (hasB (pre ++ [l]) n) n (by rw [h.has n h1 h2, hx]) hxy (hf n), hasB_snoc, hasB_snoc, Bool.or_assoc]
    congr 1
    unfold inR
    rw [Bool.eq_iff_iff]
    simp only [Bool.and_eq_true, Bool.or_eq_true, decide_eq_true_eq]
    omega
  ok r hr := by
    rcases List.mem_append.1 hr with hr | hr
    · exact h.ok r (List.mem_append_left _ hr)
    · obtain rfl := List.mem_singleton.1 hr
      have h1 := h.ok l (by simp)
      unfold okR at *
      simp only
      omega
  len := by have := h.len; simp at this ⊢; omega

/-- From place i on. -/
theorem of_ev (a b : List Rg) (op : Int) (L : List Int) (f : Int → Bool) (ha : a.length ≤ 1000000) (hb : b.length ≤ 1000000) (hop : op = 0 ∨ op = 1 ∨ op = 2) (hL : L.length ≤ 1000000)
    (hrise : L.Pairwise (· < ·)) (hrange : ∀ x ∈ L, minI ≤ x ∧ x ≤ maxI) (hfx : ∀ x ∈ L, askB op (hasB a x) (hasB b x) = f x) (hcut : ∀ x n, x ≤ n → n ≤ maxI → (∀ z ∈ L, ¬ (x < z ∧ z ≤ n)) → f n = f x) (d : Nat) :
    ∀ (i : Nat) (out : List Rg), i + d = L.length → OfInv f L i out → ∃ u, Ev (fun k => Pof.spandrelref11_of.l0 k (a.map toS) (b.map toS) op L (out.map toS) i) (u.map toS) ∧ OfInv f L L.length u := by
  induction d with
  | zero =>
    intro i out hi hI
    obtain rfl : i = L.length := by omega
    refine ⟨out, ?_, hI⟩
    refine Ev.step (f := fun _ => some (out.map toS)) (fun k => ?_) (Ev.now _)
    simp only [Pof.spandrelref11_of.l0]
    rw [if_neg (by omega)]
  | succ d ih =>
    intro i out hi hI
    obtain ⟨x, hx⟩ : ∃ x, L[i]? = some x := ⟨_, List.getElem?_eq_getElem (by omega)⟩
    have hcx : cutAt L i = x := by unfold cutAt; rw [hx]; rfl
    have hmx := List.mem_of_getElem? hx
    obtain ⟨hx1, hx2⟩ := hrange x hmx
    have hrd := rd_at L i x hx
    obtain ⟨hil, eil⟩ := List.getElem?_eq_some_iff.1 hx
    have hw : Hid (wrap64 ((i : Int) + 1) = ((i + 1 : Nat) : Int)) := Lib.hid (by rw [wrap_in (by omega) (by omega)]; rfl)
    have hp := List.pairwise_iff_getElem.1 hrise
    have hy : x < cutAt L (i + 1) ∧ cutAt L (i + 1) ≤ maxI + 1 := by
      unfold cutAt
      cases hq : L[i + 1]? with
      | none => simp only [Option.getD_none]; omega
      | some y =>
        obtain ⟨hil2, eil2⟩ := List.getElem?_eq_some_iff.1 hq
        have h1 := hp i (i + 1) hil hil2 (by omega)
        have h2 := hrange y (List.mem_of_getElem? hq)
        simp only [Option.getD_some]
        omega
    have hbet : ∀ n, x ≤ n → n < cutAt L (i + 1) → f n = f x := by
      intro n h1 h2
      refine hcut x n h1 (by omega) fun z hz hc => ?_
      obtain ⟨j, hj⟩ := List.getElem?_of_mem hz
      obtain ⟨hjl, ej⟩ := List.getElem?_eq_some_iff.1 hj
      have hij : i < j := by
        apply Decidable.byContradiction
        intro hn
        rcases Nat.lt_or_eq_of_le (Nat.le_of_not_lt hn) with h | h
        · have := hp j i hjl hil h; omega
        · subst h; omega
      have hle : cutAt L (i + 1) ≤ z := by
        unfold cutAt
        have hil2 : i + 1 < L.length := Nat.lt_of_le_of_lt hij hjl
        rw [List.getElem?_eq_getElem hil2]
        simp only [Option.getD_some]
        rcases Nat.lt_or_eq_of_le (show i + 1 ≤ j by omega) with h | h
        · have := hp (i + 1) j hil2 hjl h; omega
        · subst h; omega
      omega
    have hstep : ∀ v, Ev (fun k => Pof.spandrelref11_of.j1 k (a.map toS) (b.map toS) op L (out.map toS) i (!(f x))) v → Ev (fun k => Pof.spandrelref11_of.l0 k (a.map toS) (b.map toS) op L (out.map toS) i) v := by
      intro v hv
      refine Ev.step (fun k => ask_flag k _ _ op L _ i hop (by omega) (by omega)) ?_
      rw [hrd]
      refine Ev.bind (f := fun k p => (Pof.spandrelref11_Has.f k (b.map toS) x).bind fun y => Pof.spandrelref11_of.j1 k (a.map toS) (b.map toS) op L (out.map toS) i (!(askB op p y))) (has_f a (by omega) x) ?_
      refine Ev.bind (f := fun k y => Pof.spandrelref11_of.j1 k (a.map toS) (b.map toS) op L (out.map toS) i (!(askB op (hasB a x) y))) (has_f b (by omega) x) ?_
      rw [hfx x hmx]
      exact hv
    cases hfv : f x with
    | false =>
      obtain ⟨u, hu, hI2⟩ := ih (i + 1) out (by omega) (hI.skip hcx hy.1 fun n h1 h2 => (hbet n h1 h2).trans hfv)
      refine ⟨u, hstep _ ?_, hI2⟩
      rw [hfv]
      refine Ev.step (f := fun k => Pof.spandrelref11_of.l0 k (a.map toS) (b.map toS) op L (out.map toS) ((i + 1 : Nat) : Int)) (fun k => ?_) hu
      simp only [Pof.spandrelref11_of.j1, Bool.not_false, if_true]
      rw [hw.out]
    | true =>
      have hbt : ∀ n, x ≤ n → n < cutAt L (i + 1) → f n = true := fun n h1 h2 => (hbet n h1 h2).trans hfv
      have hlm := hI.len
      have hcy : (((i + 1 : Nat) : Int) < (L.length : Int) ∧ Hid (wrap64 (rd L ((i + 1 : Nat) : Int) - 1) = cutAt L (i + 1) - 1)) ∨ (¬ ((i + 1 : Nat) : Int) < (L.length : Int) ∧ Hid (9223372036854775807 = cutAt L (i + 1) - 1)) := by
        by_cases hlt : i + 1 < L.length
        · refine .inl ⟨by omega, Lib.hid ?_⟩
          have e : cutAt L (i + 1) = L[i + 1] := by
            unfold cutAt
            rw [List.getElem?_eq_getElem hlt]
            rfl
          rw [rd_at L (i + 1) L[i + 1] (List.getElem?_eq_getElem hlt), ← e]
          simp only [minI, maxI] at hx1 hx2 hy
          rw [wrap_in (by omega) (by omega)]
        · refine .inr ⟨by omega, Lib.hid ?_⟩
          unfold cutAt
          rw [List.getElem?_eq_none (by omega)]
          rfl
      rcases nil_or_snoc' out with rfl | ⟨pre, l, rfl⟩
      · obtain ⟨u, hu, hI2⟩ := ih (i + 1) ([] ++ [(x, cutAt L (i + 1) - 1)]) (by omega) (hI.push hcx rfl hy.1 hx1 hy.2 (by show minI - 1 < x; omega) hbt)
        refine ⟨u, hstep _ ?_, hI2⟩
        rw [hfv]
        refine Ev.step (f := fun k => Pof.spandrelref11_of.l0 k (a.map toS) (b.map toS) op L (([] ++ [(x, cutAt L (i + 1) - 1)]).map toS) ((i + 1 : Nat) : Int)) (fun k => ?_) hu
        simp only [Pof.spandrelref11_of.j1, Bool.not_true, Bool.false_eq_true, if_false, hw.out, List.map_nil, List.length_nil]
        rcases hcy with ⟨c1, c2⟩ | ⟨c1, c2⟩
        · rw [if_pos c1, if_pos (by omega), if_neg (by omega), if_pos (by omega), if_pos (by omega), if_pos (by omega), hrd, c2.out]
          rfl
        · rw [if_neg c1, if_neg (by omega), if_pos (by omega), if_pos (by omega), if_pos (by omega), hrd, c2.out]
          rfl
      · have hle := hI.last
        rw [endB_snoc, hcx] at hle
        have hlo := hI.ok l (by simp)
        unfold okR at hlo
        obtain ⟨_, _, hl12⟩ := (rightFrom_snoc _ _ _).1 hI.right
        have hlen : ((pre ++ [l]).map toS).length = pre.length + 1 := by simp
        have hlm2 : pre.length + 1 ≤ i := by have h := hlm; simp at h; omega
        have hwl : Hid (wrap64 (((pre.length + 1 : Nat) : Int) - 1) = (pre.length : Int)) := Lib.hid (by rw [wrap_in (by omega) (by omega)]; omega)
        have hrl : Pof.rd_T32 ((pre ++ [l]).map toS) (pre.length : Int) = toS l := rd_toS _ _ _ (by simp)
        have e1 : (toS l).f1 = l.2 := rfl
        have e0 : (toS l).f0 = l.1 := rfl
        have hwx : Hid (wrap64 (x - 1) = x - 1) := Lib.hid (by
          simp only [minI, maxI] at hx1 hx2 hlo
          exact wrap_in (by omega) (by omega))
        by_cases hm : l.2 = x - 1
        · obtain ⟨u, hu, hI2⟩ := ih (i + 1) (pre ++ [(l.1, cutAt L (i + 1) - 1)]) (by omega) (hI.grow hcx rfl hy.1 hy.2 hm hbt)
          refine ⟨u, hstep _ ?_, hI2⟩
          rw [hfv]
          refine Ev.step (f := fun k => Pof.spandrelref11_of.l0 k (a.map toS) (b.map toS) op L ((pre ++ [(l.1, cutAt L (i + 1) - 1)]).map toS) ((i + 1 : Nat) : Int)) (fun k => ?_) hu
          have hgx : x > -9223372036854775808 := by simp only [minI] at hlo; omega
          simp only [Pof.spandrelref11_of.j1, Bool.not_true, Bool.false_eq_true, if_false, hw.out, hlen, hwl.out, hrl, hrd, e1, e0, hwx.out, Int.toNat_natCast]
          rcases hcy with ⟨c1, c2⟩ | ⟨c1, c2⟩
          · rw [if_pos c1, if_pos (by omega), if_pos (by omega), if_pos (by omega), if_pos (by omega), if_pos (by omega), if_pos (by omega), if_pos hm, if_pos hgx, c2.out]
            have es : ((pre ++ [l]).map toS).set pre.length ⟨l.1, cutAt L (i + 1) - 1⟩ = (pre ++ [(l.1, cutAt L (i + 1) - 1)]).map toS := set_last pre l (l.1, cutAt L (i + 1) - 1)
            rw [es]
          · rw [if_neg c1, if_pos (by omega), if_pos (by omega), if_pos (by omega), if_pos (by omega), if_pos (by omega), if_pos hm, if_pos hgx, c2.out]
            have es : ((pre ++ [l]).map toS).set pre.length ⟨l.1, cutAt L (i + 1) - 1⟩ = (pre ++ [(l.1, cutAt L (i + 1) - 1)]).map toS := set_last pre l (l.1, cutAt L (i + 1) - 1)
            rw [es]
        · obtain ⟨u, hu, hI2⟩ := ih (i + 1) (pre ++ [l] ++ [(x, cutAt L (i + 1) - 1)]) (by omega) (hI.push hcx rfl hy.1 hx1 hy.2 (by rw [endB_snoc]; omega) hbt)
          refine ⟨u, hstep _ ?_, hI2⟩
          rw [hfv]
          refine Ev.step (f := fun k => Pof.spandrelref11_of.l0 k (a.map toS) (b.map toS) op L ((pre ++ [l] ++ [(x, cutAt L (i + 1) - 1)]).map toS) ((i + 1 : Nat) : Int)) (fun k => ?_) hu
          have em : (pre ++ [l] ++ [(x, cutAt L (i + 1) - 1)]).map toS = (pre ++ [l]).map toS ++ [toS (x, cutAt L (i + 1) - 1)] := by simp
          simp only [Pof.spandrelref11_of.j1, Bool.not_true, Bool.false_eq_true, if_false, hw.out, hlen, hwl.out, hrl, hrd, e1, e0, hwx.out, Int.toNat_natCast]
          rcases hcy with ⟨c1, c2⟩ | ⟨c1, c2⟩
          · rw [if_pos c1, if_pos (by omega), if_pos (by omega), if_pos (by omega), if_pos (by omega), if_pos (by omega), if_pos (by omega), if_neg hm, if_pos (by omega), c2.out, em]
            rfl
          · rw [if_neg c1, if_pos (by omega), if_pos (by omega), if_pos (by omega), if_pos (by omega), if_pos (by omega), if_neg hm, if_pos (by omega), em, ← c2.out]
            rfl
theorem inR_cutConst {L : List Int} {r : Rg} (hr : r.1 ≤ r.2 → r.1 ∈ L ∧ (r.2 < maxI → r.2 + 1 ∈ L)) {x n : Int} (hxn : x ≤ n) (hn : n ≤ maxI) (hc : ∀ z ∈ L, ¬ (x < z ∧ z ≤ n)) : inR r n = inR r x := by
  unfold inR
  by_cases h : r.1 ≤ r.2
  · obtain ⟨h1, h2⟩ := hr h
    have c1 := hc _ h1
    by_cases h3 : r.2 < maxI
    · have c2 := hc _ (h2 h3)
      rw [Bool.eq_iff_iff]
      simp only [Bool.and_eq_true, decide_eq_true_eq]
      omega
    · rw [Bool.eq_iff_iff]
      simp only [Bool.and_eq_true, decide_eq_true_eq]
      omega
  · rw [Bool.eq_iff_iff]
    simp only [Bool.and_eq_true, decide_eq_true_eq]
    omega
theorem hasB_cutConst {L : List Int} {s : List Rg} (hr : ∀ r ∈ s, r.1 ≤ r.2 → r.1 ∈ L ∧ (r.2 < maxI → r.2 + 1 ∈ L)) {x n : Int} (hxn : x ≤ n) (hn : n ≤ maxI) (hc : ∀ z ∈ L, ¬ (x < z ∧ z ≤ n)) : hasB s n = hasB s x := by
  induction s with
  | nil => rfl
  | cons r s ih =>
    rw [hasB_cons, hasB_cons, inR_cutConst (hr r List.mem_cons_self) hxn hn hc, ih fun q hq => hr q (List.mem_cons_of_mem _ hq)]
/-- What the reference's of answers. -/
theorem of_f (a b : List Rg) (op : Int) (ha : a.length ≤ 100000) (hb : b.length ≤ 100000) (hoa : ∀ r ∈ a, okR r) (hob : ∀ r ∈ b, okR r) (hop : op = 0 ∨ op = 1 ∨ op = 2) :
    ∃ u, Ev (fun k => Pof.spandrelref11_of.f k (a.map toS) (b.map toS) op) (u.map toS) ∧ right u ∧ (∀ n, hasB u n = askB op (hasB a n) (hasB b n)) ∧ (∀ r ∈ u, okR r) ∧ u.length ≤ 2 * a.length + 2 * b.length + 1 := by
  have hl1 := cutsR_length a [minI]
  have hl2 := cutsR_length b (cutsR [minI] a)
  simp only [List.length_singleton] at hl1
  have hmem : ∀ z, z ∈ cutsR (cutsR [minI] a) b ↔ (z = minI ∨ ∃ r ∈ a, r.1 ≤ r.2 ∧ (z = r.1 ∨ r.2 < maxI ∧ z = r.2 + 1)) ∨ ∃ r ∈ b, r.1 ≤ r.2 ∧ (z = r.1 ∨ r.2 < maxI ∧ z = r.2 + 1) := by
    intro z
    rw [mem_cutsR, mem_cutsR, List.mem_singleton]
  have hrise : (cutsR (cutsR [minI] a) b).Pairwise (· < ·) := cutsR_rises b (cutsR_rises a (by simp))
  have hone : ∀ (s : List Rg), (∀ r ∈ s, okR r) → ∀ z, (∃ r ∈ s, r.1 ≤ r.2 ∧ (z = r.1 ∨ r.2 < maxI ∧ z = r.2 + 1)) → minI ≤ z ∧ z ≤ maxI := by
    rintro s hs z ⟨r, hr, h1, h2⟩
    have := hs r hr
    unfold okR at this
    rcases h2 with h2 | ⟨h2, h3⟩ <;> omega
  have hrange : ∀ z ∈ cutsR (cutsR [minI] a) b, minI ≤ z ∧ z ≤ maxI := by
    intro z hz
    rcases (hmem z).1 hz with (h | h) | h
    · subst h; exact ⟨Int.le_refl _, by decide⟩
    · exact hone a hoa z h
    · exact hone b hob z h
  have hca : ∀ r ∈ a, r.1 ≤ r.2 → r.1 ∈ cutsR (cutsR [minI] a) b ∧ (r.2 < maxI → r.2 + 1 ∈ cutsR (cutsR [minI] a) b) := fun r hr h =>
    ⟨(hmem _).2 (.inl (.inr ⟨r, hr, h, .inl rfl⟩)), fun h2 => (hmem _).2 (.inl (.inr ⟨r, hr, h, .inr ⟨h2, rfl⟩⟩))⟩
  have hcb : ∀ r ∈ b, r.1 ≤ r.2 → r.1 ∈ cutsR (cutsR [minI] a) b ∧ (r.2 < maxI → r.2 + 1 ∈ cutsR (cutsR [minI] a) b) := fun r hr h =>
    ⟨(hmem _).2 (.inr ⟨r, hr, h, .inl rfl⟩), fun h2 => (hmem _).2 (.inr ⟨r, hr, h, .inr ⟨h2, rfl⟩⟩)⟩
  have hmin : cutAt (cutsR (cutsR [minI] a) b) 0 = minI := by
    obtain ⟨j, hj⟩ := List.getElem?_of_mem ((hmem minI).2 (.inl (.inl rfl)))
    obtain ⟨hjl, ej⟩ := List.getElem?_eq_some_iff.1 hj
    have h0 : 0 < (cutsR (cutsR [minI] a) b).length := by omega
    unfold cutAt
    rw [List.getElem?_eq_getElem h0]
    simp only [Option.getD_some]
    have h1 := hrange _ (List.getElem_mem h0)
    rcases Nat.eq_zero_or_pos j with h | h
    · subst h; exact ej
    · have := List.pairwise_iff_getElem.1 hrise 0 j h0 hjl h
      omega
  obtain ⟨u, hu, hI⟩ := of_ev a b op (cutsR (cutsR [minI] a) b) (fun n => askB op (hasB a n) (hasB b n)) (by omega) (by omega) hop (by omega) hrise hrange (fun _ _ => rfl)
    (fun x n h1 h2 h3 => by rw [hasB_cutConst hca h1 h2 h3, hasB_cutConst hcb h1 h2 h3]) (cutsR (cutsR [minI] a) b).length 0 [] (by omega)
    ⟨trivial, by show minI - 1 ≤ _; rw [hmin]; omega, fun n h1 h2 => by rw [hmin, decide_eq_false (by omega)]; rfl, (fun r hr => by cases hr), Nat.le_refl _⟩
  have hend : cutAt (cutsR (cutsR [minI] a) b) (cutsR (cutsR [minI] a) b).length = maxI + 1 := by
    unfold cutAt
    rw [List.getElem?_eq_none (Nat.le_refl _)]
    rfl
  have hout : ∀ (s : List Rg), (∀ r ∈ s, okR r) → ∀ n, (n < minI ∨ maxI < n) → hasB s n = false := by
    intro s hs n hn
    unfold hasB
    rw [List.any_eq_false]
    intro r hr
    have h1 := hs r hr
    unfold okR at h1
    rw [inR_false (by omega)]
    simp
  refine ⟨u, ?_, ⟨_, hI.right⟩, fun n => ?_, hI.ok, ?_⟩
  · unfold Pof.spandrelref11_of.f
    refine Ev.bind (f := fun k t => (Pof.spandrelref11_starts.f k t (b.map toS)).bind fun t2 => Pof.spandrelref11_of.l0 k (a.map toS) (b.map toS) op t2 [] 0) (starts_f [minI] a (by omega) (by simp) hoa) ?_
    exact Ev.bind (f := fun k t2 => Pof.spandrelref11_of.l0 k (a.map toS) (b.map toS) op t2 [] 0) (starts_f _ b (by omega) (by omega) hob) hu
  · by_cases hn : n < minI ∨ maxI < n
    · rw [hout u hI.ok n hn, hout a hoa n hn, hout b hob n hn]
      rcases hop with rfl | rfl | rfl <;> rfl
    · rw [hI.has n (by omega) (by omega), hend, decide_eq_true (by omega)]
      rfl
  · have := hI.len
    omega
end Go.Proofs.Ytkidoggmlafkgaa.Span
