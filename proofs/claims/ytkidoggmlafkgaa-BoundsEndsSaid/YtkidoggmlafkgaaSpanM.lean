/- Sets of whole numbers as lists of ranges: plain, no program. -/
import Derived.WalkKit
namespace Go.Proofs.Ytkidoggmlafkgaa.Span

abbrev Rg := Int × Int
def maxI : Int := 9223372036854775807
def minI : Int := -9223372036854775808
def inR (r : Rg) (n : Int) : Bool := decide (r.1 ≤ n) && decide (n ≤ r.2)
def hasB (s : List Rg) (n : Int) : Bool := s.any (inR · n)
def okR (r : Rg) : Prop := minI ≤ r.1 ∧ r.1 ≤ maxI ∧ minI ≤ r.2 ∧ r.2 ≤ maxI
def rightFrom : Int → List Rg → Prop
  | _, [] => True
  | b, r :: s => b < r.1 ∧ r.1 ≤ r.2 ∧ rightFrom (r.2 + 1) s
def right (s : List Rg) : Prop := ∃ b, rightFrom b s

theorem hasB_nil (n : Int) : hasB [] n = false := rfl
theorem hasB_cons (r : Rg) (s : List Rg) (n : Int) : hasB (r :: s) n = (inR r n || hasB s n) := rfl
theorem hasB_append (s t : List Rg) (n : Int) : hasB (s ++ t) n = (hasB s n || hasB t n) := by simp [hasB]
theorem hasB_snoc (s : List Rg) (r : Rg) (n : Int) : hasB (s ++ [r]) n = (hasB s n || inR r n) := by simp [hasB]
theorem inR_eq {r : Rg} {n : Int} : inR r n = true ↔ r.1 ≤ n ∧ n ≤ r.2 := by simp [inR]
theorem inR_false {r : Rg} {n : Int} (h : n < r.1 ∨ r.2 < n) : inR r n = false := by
  rw [Bool.eq_false_iff]
  intro c
  have := inR_eq.1 c
  omega
theorem low {b : Int} {s : List Rg} (h : rightFrom b s) {n : Int} (hn : n ≤ b) : hasB s n = false := by
  induction s generalizing b with
  | nil => rfl
  | cons r s ih =>
    obtain ⟨h1, h2, h3⟩ := h
    rw [hasB_cons, inR_false (.inl (by omega)), ih h3 (by omega)]
    rfl
theorem rightFrom.mono {b c : Int} {s : List Rg} (h : rightFrom b s) (hc : c ≤ b) : rightFrom c s := by
  cases s with
  | nil => trivial
  | cons r s => exact ⟨by have := h.1; omega, h.2⟩
theorem uniqF {b c : Int} {s t : List Rg} (hs : rightFrom b s) (ht : rightFrom c t) (h : ∀ n, hasB s n = hasB t n) : s = t := by
  induction s generalizing b c t with
  | nil =>
    cases t with
    | nil => rfl
    | cons u t =>
      have h1 := h u.1
      rw [hasB_nil, hasB_cons, inR_eq.2 ⟨Int.le_refl _, ht.2.1⟩] at h1
      cases h1
  | cons r s ih =>
    cases t with
    | nil =>
      have h1 := h r.1
      rw [hasB_nil, hasB_cons, inR_eq.2 ⟨Int.le_refl _, hs.2.1⟩] at h1
      cases h1
    | cons u t =>
      obtain ⟨_, s1, s2⟩ := hs
      obtain ⟨_, t1, t2⟩ := ht
      have e1 : r.1 = u.1 := by
        have lr : ∀ (r u : Rg) (s t : List Rg), r.1 ≤ r.2 → u.1 ≤ u.2 → rightFrom (u.2 + 1) t → (∀ n, hasB (r :: s) n = hasB (u :: t) n) → u.1 ≤ r.1 := by
          intro r u s t s1 t1 t2 h
          apply Decidable.byContradiction
          intro hlt
          have h1 := h r.1
          rw [hasB_cons, inR_eq.2 ⟨Int.le_refl _, s1⟩, hasB_cons, inR_false (.inl (by omega)), low t2 (by omega)] at h1
          cases h1
        have h1 := lr r u s t s1 t1 t2 h
        have h2 := lr u r t s t1 s1 s2 fun n => (h n).symm
        omega
      have e2 : r.2 = u.2 := by
        have lr : ∀ (r u : Rg) (s t : List Rg), r.1 = u.1 → r.1 ≤ r.2 → rightFrom (r.2 + 1) s → (∀ n, hasB (r :: s) n = hasB (u :: t) n) → u.2 ≤ r.2 := by
          intro r u s t e s1 s2 h
          apply Decidable.byContradiction
          intro hlt
          have h1 := h (r.2 + 1)
          rw [hasB_cons, inR_false (.inr (by omega)), low s2 (Int.le_refl _), hasB_cons, inR_eq.2 ⟨by omega, by omega⟩] at h1
          cases h1
        have h1 := lr r u s t e1 s1 s2 h
        have h2 := lr u r t s e1.symm t1 t2 fun n => (h n).symm
        omega
      have e : r = u := Prod.ext e1 e2
      subst e
      congr 1
      refine ih s2 t2 fun n => ?_
      by_cases hn : n ≤ r.2 + 1
      · rw [low s2 hn, low t2 hn]
      · have h1 := h n
        rw [hasB_cons, hasB_cons, inR_false (.inr (by omega))] at h1
        simpa using h1
theorem uniq {s t : List Rg} (hs : right s) (ht : right t) (h : ∀ n, hasB s n = hasB t n) : s = t := by
  obtain ⟨b, hs⟩ := hs
  obtain ⟨c, ht⟩ := ht
  exact uniqF hs ht h

/-- The end of a list, or what lies ahead of it. -/
def endB : Int → List Rg → Int
  | b, [] => b
  | _, r :: s => endB (r.2 + 1) s
theorem endB_snoc (b : Int) (s : List Rg) (x : Rg) : endB b (s ++ [x]) = x.2 + 1 := by
  induction s generalizing b with
  | nil => rfl
  | cons r s ih => exact ih _
theorem rightFrom_snoc (b : Int) (s : List Rg) (x : Rg) : rightFrom b (s ++ [x]) ↔ rightFrom b s ∧ endB b s < x.1 ∧ x.1 ≤ x.2 := by
  induction s generalizing b with
  | nil => simp [rightFrom, endB]
  | cons r s ih =>
    simp only [List.cons_append, rightFrom, endB, ih]
    constructor
    · rintro ⟨a, b, c, d, e⟩; exact ⟨⟨a, b, c⟩, d, e⟩
    · rintro ⟨⟨a, b, c⟩, d, e⟩; exact ⟨a, b, c, d, e⟩
theorem right_one {x : Rg} (h : x.1 ≤ x.2) : right [x] := ⟨x.1 - 1, by omega, h, trivial⟩

/-- One round of the merging: the range x goes into what is out. -/
theorem merge_new {b : Int} {out : List Rg} {x : Rg} (h : rightFrom b out) (h1 : endB b out < x.1) (hx : x.1 ≤ x.2) : rightFrom b (out ++ [x]) := (rightFrom_snoc b out x).2 ⟨h, h1, hx⟩
theorem merge_in {b : Int} {pre : List Rg} {l x : Rg} (h : rightFrom b (pre ++ [l])) (hl : l.1 ≤ x.1) (hm : x.1 ≤ l.2 + 1) : rightFrom b (pre ++ [(l.1, max l.2 x.2)]) ∧ ∀ n, hasB (pre ++ [(l.1, max l.2 x.2)]) n = hasB (pre ++ [l] ++ [x]) n := by
  obtain ⟨h1, h2, h3⟩ := (rightFrom_snoc b pre l).1 h
  refine ⟨(rightFrom_snoc b pre _).2 ⟨h1, h2, by simp only; omega⟩, fun n => ?_⟩
  rw [hasB_snoc, hasB_snoc, hasB_snoc, Bool.or_assoc]
  congr 1
  unfold inR
  rw [Bool.eq_iff_iff]
  simp only [Bool.and_eq_true, Bool.or_eq_true, decide_eq_true_eq]
  omega
end Go.Proofs.Ytkidoggmlafkgaa.Span
