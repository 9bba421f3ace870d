/- Constraints, plain: what they let in, and how long a set of theirs may be. -/
import Derived.Test.YtkidoggmlafkgaaPInx2
import Derived.Test.YtkidoggmlafkgaaSpanM
namespace Go.Proofs.Ytkidoggmlafkgaa.Bd
open Go.Proofs.Ytkidoggmlafkgaa.Span

abbrev Con := PIn.S36
def leafB (c : Con) (n : Int) : Bool := (c.f3 || decide (c.f1 ≤ n)) && (c.f4 || decide (n ≤ c.f2))
def exceptB : List Bool → Bool
  | [] => true
  | x :: l => x && l.all (!·)
/-- Does a constraint let a number in, with so much room? -/
def inB : Nat → Con → Int → Bool
  | 0, _, _ => false
  | r + 1, c, n => if c.f0 = 0 then true else if c.f0 = 1 then leafB c n else if c.f0 = 2 then c.f5.any (inB r · n) else if c.f0 = 3 then c.f5.all (inB r · n) else if c.f0 = 4 then exceptB (c.f5.map (inB r · n)) else false
theorem inB_succ (r : Nat) (c : Con) (n : Int) : inB (r + 1) c n = if c.f0 = 0 then true else if c.f0 = 1 then leafB c n else if c.f0 = 2 then c.f5.any (inB r · n) else if c.f0 = 3 then c.f5.all (inB r · n) else if c.f0 = 4 then exceptB (c.f5.map (inB r · n)) else false := rfl
mutual
/-- How many constraints there are in one. -/
def sizeC : Con → Nat
  | ⟨_, _, _, _, _, l⟩ => sizeL l + 1
def sizeL : List Con → Nat
  | [] => 0
  | x :: l => sizeC x + sizeL l
end
theorem sizeC_eq (c : Con) : sizeC c = sizeL c.f5 + 1 := by
  cases c
  simp only [sizeC]
theorem sizeC_pos (c : Con) : 0 < sizeC c := by rw [sizeC_eq]; omega
theorem sizeL_length (l : List Con) : l.length ≤ sizeL l := by
  induction l with
  | nil => exact Nat.le_refl _
  | cons x l ih =>
    have := sizeC_pos x
    simp only [sizeL, List.length_cons]
    omega
theorem sizeL_mem {l : List Con} {x : Con} (h : x ∈ l) : sizeC x ≤ sizeL l := by
  induction l with
  | nil => cases h
  | cons y l ih =>
    simp only [sizeL]
    rcases List.mem_cons.1 h with rfl | h
    · omega
    · have := ih h
      omega
theorem sizeL_drop {l : List Con} {k : Nat} {x : Con} (h : l[k]? = some x) : sizeL (l.drop k) = sizeC x + sizeL (l.drop (k + 1)) := by
  obtain ⟨hk, e⟩ := List.getElem?_eq_some_iff.1 h
  rw [List.drop_eq_getElem_cons hk, e]
  simp only [sizeL]
/-- The ends that are told are whole numbers of 64 bits, so deep. -/
def okD : Nat → Con → Prop
  | 0, _ => True
  | d + 1, c => okR (c.f1, c.f2) ∧ ∀ x ∈ c.f5, okD d x

theorem nodup_le (l : List Int) : ∀ m : List Int, l.Nodup → (∀ x ∈ l, x ∈ m) → l.length ≤ m.length := by
  induction l with
  | nil => intro m _ _; simp
  | cons x l ih =>
    intro m hn hs
    obtain ⟨h1, h2⟩ := List.nodup_cons.1 hn
    have hx := hs x List.mem_cons_self
    have h3 := ih (m.erase x) h2 fun y hy => (List.mem_erase_of_ne (fun e => by subst e; exact h1 hy)).2 (hs y (List.mem_cons_of_mem _ hy))
    have h4 := List.length_erase_of_mem hx
    have h5 := List.length_pos_of_mem hx
    simp only [List.length_cons]
    omega
theorem from_gt {b : Int} {s : List Rg} (h : rightFrom b s) : ∀ r ∈ s, b < r.1 := by
  induction s generalizing b with
  | nil => intro r hr; cases hr
  | cons x s ih =>
    intro r hr
    rcases List.mem_cons.1 hr with rfl | hr
    · exact h.1
    · have h1 := ih h.2.2 r hr
      have h2 := h.1
      have h3 := h.2.1
      omega
theorem from_nodup {b : Int} {s : List Rg} (h : rightFrom b s) : (s.map (·.1)).Nodup := by
  induction s generalizing b with
  | nil => simp
  | cons x s ih =>
    rw [List.map_cons, List.nodup_cons]
    refine ⟨fun hm => ?_, ih h.2.2⟩
    obtain ⟨r, hr, e⟩ := List.mem_map.1 hm
    have h1 := from_gt h.2.2 r hr
    have h3 := h.2.1
    omega
theorem from_before {b : Int} {s : List Rg} (h : rightFrom b s) : ∀ r ∈ s, hasB s (r.1 - 1) = false ∧ hasB s r.1 = true := by
  induction s generalizing b with
  | nil => intro r hr; cases hr
  | cons x s ih =>
    intro r hr
    obtain ⟨h1, h2, h3⟩ := h
    rw [hasB_cons, hasB_cons]
    rcases List.mem_cons.1 hr with rfl | hr
    · rw [inR_false (.inl (by omega)), low h3 (by omega), inR_eq.2 ⟨Int.le_refl _, h2⟩]
      exact ⟨rfl, rfl⟩
    · have h4 := from_gt h3 r hr
      obtain ⟨h5, h6⟩ := ih h3 r hr
      rw [inR_false (.inr (by omega)), h5, h6]
      exact ⟨rfl, by simp⟩
theorem has_start {s : List Rg} {n : Int} (h : hasB s n = true) (h0 : hasB s (n - 1) = false) : n ∈ s.map (·.1) := by
  unfold hasB at h h0
  obtain ⟨r, hr, h1⟩ := List.any_eq_true.1 h
  have h2 := List.any_eq_false.1 h0 r hr
  have h3 := inR_eq.1 h1
  have h4 : r.1 = n := by
    apply Decidable.byContradiction
    intro hne
    exact h2 (inR_eq.2 ⟨by omega, by omega⟩)
  exact List.mem_map.2 ⟨r, hr, h4⟩
theorem has_end {s : List Rg} {n : Int} (h : hasB s n = false) (h0 : hasB s (n - 1) = true) : n ∈ s.map (·.2 + 1) := by
  unfold hasB at h h0
  obtain ⟨r, hr, h1⟩ := List.any_eq_true.1 h0
  have h2 := List.any_eq_false.1 h r hr
  have h3 := inR_eq.1 h1
  have h4 : r.2 + 1 = n := by
    apply Decidable.byContradiction
    intro hne
    exact h2 (inR_eq.2 ⟨by omega, by omega⟩)
  exact List.mem_map.2 ⟨r, hr, h4⟩
/-- A right list has no more ranges than there are places at which they can begin. -/
theorem right_length {u : List Rg} (hu : right u) (P : List Int) (h : ∀ n, hasB u n = true → hasB u (n - 1) = false → n ∈ P) : u.length ≤ P.length := by
  obtain ⟨b, hb⟩ := hu
  have h1 := nodup_le (u.map (·.1)) P (from_nodup hb) fun x hx => by
    obtain ⟨r, hr, rfl⟩ := List.mem_map.1 hx
    obtain ⟨h2, h3⟩ := from_before hb r hr
    exact h _ h3 h2
  rwa [List.length_map] at h1
theorem meet_length {u a b : List Rg} (hu : right u) (h : ∀ n, hasB u n = (hasB a n && hasB b n)) : u.length ≤ a.length + b.length := by
  have h1 := right_length hu (a.map (·.1) ++ b.map (·.1)) fun n h1 h0 => by
    rw [h] at h1 h0
    simp only [Bool.and_eq_true] at h1
    rw [List.mem_append]
    rcases Bool.and_eq_false_iff.1 h0 with h2 | h2
    · exact .inl (has_start h1.1 h2)
    · exact .inr (has_start h1.2 h2)
  simpa using h1
theorem minus_length {u a b : List Rg} (hu : right u) (h : ∀ n, hasB u n = (hasB a n && !hasB b n)) : u.length ≤ a.length + b.length := by
  have h1 := right_length hu (a.map (·.1) ++ b.map (·.2 + 1)) fun n h1 h0 => by
    rw [h] at h1 h0
    simp only [Bool.and_eq_true, Bool.not_eq_true'] at h1
    rw [List.mem_append]
    rcases Bool.and_eq_false_iff.1 h0 with h2 | h2
    · exact .inl (has_start h1.1 h2)
    · exact .inr (has_end h1.2 (by simpa using h2))
  simpa using h1
end Go.Proofs.Ytkidoggmlafkgaa.Bd
