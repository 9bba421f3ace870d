/- The reference's few and Few come to an end. -/
import Derived.Test.YtbjddomocggjmaaFcH
namespace Go.Proofs.Ytbjddomocggjmaa.Fc
open Go.RowKit Go.Proofs.YtbjddomocggjmaaW.PrintWords
open PFragcheckChecks

/-- It comes to an end. -/
def Ends {α : Type} (g : Nat → Option α) : Prop := ∃ r, Ev g r
theorem Ends.now {α : Type} (r : α) : Ends (fun _ => some r) := ⟨r, Ev.now r⟩
theorem Ends.step {α : Type} {g f : Nat → Option α} (h : ∀ k, g (k + 1) = f k) (hf : Ends f) : Ends g := let ⟨r, hr⟩ := hf; ⟨r, Ev.step h hr⟩
theorem Ends.congr {α : Type} {g f : Nat → Option α} (h : ∀ k, g k = f k) (hf : Ends f) : Ends g := let ⟨r, hr⟩ := hf; ⟨r, Ev.congr h hr⟩
theorem Ends.bind {α β : Type} {g : Nat → Option α} {f : Nat → α → Option β} (h : Ends g) (hf : ∀ a, Ends (fun n => f n a)) : Ends (fun n => (g n).bind (f n)) := by
  obtain ⟨a, ha⟩ := h
  obtain ⟨r, hr⟩ := hf a
  exact ⟨r, Ev.bind ha hr⟩
theorem few_l1 (l : List Stmt) (i : Nat) (s : Stmt) (hi : i < l.length) (hg : l[i]? = some s) (hs : s.f2.length ≤ M) (h3 : ∀ a, Ends (fun k => spandrelref18_few.f k s.f3 a)) (h4 : ∀ a, Ends (fun k => spandrelref18_few.f k s.f4 a)) (hn : ∀ a, Ends (fun k => spandrelref18_few.l0 k l a (wrap64 ((i : Int) + 1)))) (n : Nat) :
    ∀ (j : Nat) (a : Int), j + n = s.f2.length → Ends (fun k => spandrelref18_few.l1 k l a i j) := by
  have hM : s.f2.length ≤ 140737488351232 := hs
  have hr := rd32 hg
  have hseq : ∀ a : Int, Ends (fun k => (spandrelref18_few.f k s.f3 a).bind fun t116 => ((spandrelref18_few.f k s.f4 t116).bind fun t118 => (spandrelref18_few.l0 k l t118 (wrap64 ((i : Int) + 1))))) := fun a =>
    Ends.bind (f := fun k t116 => ((spandrelref18_few.f k s.f4 t116).bind fun t118 => (spandrelref18_few.l0 k l t118 (wrap64 ((i : Int) + 1))))) (h3 a) fun b => Ends.bind (f := fun k t118 => (spandrelref18_few.l0 k l t118 (wrap64 ((i : Int) + 1)))) (h4 b) fun c => hn c
  induction n with
  | zero =>
    intro j a hj
    refine Ends.step (fun k => ?_) (hseq a)
    simp only [spandrelref18_few.l1]
    rw [if_pos (by omega), if_pos (by omega), hr, if_neg (by omega)]
  | succ n ih =>
    intro j a hj
    have hw := wrap_nat j (by omega)
    by_cases ha : a ≥ 0
    · refine Ends.step (fun k => ?_) (ih (j + 1) (wrap64 (a - (((rd_T73 s.f2 (j : Int)).f2).size : Int))) (by omega))
      simp only [spandrelref18_few.l1]
      rw [if_pos (by omega), if_pos (by omega), hr, if_pos (by omega), if_pos ha, if_pos (by omega), hw]
    · refine Ends.step (fun k => ?_) (hseq a)
      simp only [spandrelref18_few.l1]
      rw [if_pos (by omega), if_pos (by omega), hr, if_pos (by omega), if_neg ha]
theorem few_l0 (l : List Stmt) (hl : l.length ≤ M) (ho : ∀ x ∈ l, ∀ d, okS d x) (ih : ∀ l' : List Stmt, SizeOf.sizeOf l' < SizeOf.sizeOf l → l'.length ≤ M → (∀ x ∈ l', ∀ d, okS d x) → ∀ a, Ends (fun k => spandrelref18_few.f k l' a)) (n : Nat) :
    ∀ (i : Nat) (a : Int), i + n = l.length → Ends (fun k => spandrelref18_few.l0 k l a i) := by
  have hM : l.length ≤ 140737488351232 := hl
  induction n with
  | zero =>
    intro i a hi
    refine Ends.step (f := fun k => spandrelref18_few.j1 k l a i false) (fun k => ?_) (Ends.step (f := fun _ => some a) (fun k => ?_) (Ends.now _))
    · simp only [spandrelref18_few.l0]
      rw [if_neg (by omega)]
    · simp only [spandrelref18_few.j1]; rfl
  | succ n ih2 =>
    intro i a hi
    have hlt : i < l.length := by omega
    have hg := List.getElem?_eq_getElem hlt
    generalize l[i] = s at *
    have hs := List.mem_of_getElem? hg
    have hr := rd32 hg
    have hw := wrap_nat i (by omega)
    have hj : ∀ k, spandrelref18_few.l0 (k + 1) l a i = spandrelref18_few.j1 k l a i (decide (a ≥ 0)) := by
      intro k
      simp only [spandrelref18_few.l0]
      rw [if_pos (by omega)]
    by_cases ha : a ≥ 0
    · have h1 := few_l1 l i s hlt hg (ho s hs 1).2.2.1 (ih s.f3 (size3 hs) (ho s hs 1).2.2.2.1 fun x hx d => okS_3 (ho s hs) hx d) (ih s.f4 (size4 hs) (ho s hs 1).2.2.2.2.1 fun x hx d => okS_4 (ho s hs) hx d) (fun b => by rw [hw]; exact ih2 (i + 1) b (by omega)) s.f2.length 0
      refine Ends.step hj (Ends.step (fun k => ?_) (h1 (wrap64 ((wrap64 ((wrap64 (a - 1)) - (s.f2.length : Int))) - (s.f1.size : Int))) (by omega)))
      simp only [spandrelref18_few.j1]
      rw [if_pos (decide_eq_true ha), if_pos (by omega), if_pos (by omega), hr]
      rfl
    · refine Ends.step hj (Ends.step (f := fun _ => some a) (fun k => ?_) (Ends.now _))
      simp only [spandrelref18_few.j1]
      rw [if_neg (by simpa using ha)]
theorem few_f (n : Nat) : ∀ l : List Stmt, SizeOf.sizeOf l < n → l.length ≤ M → (∀ x ∈ l, ∀ d, okS d x) → ∀ a, Ends (fun k => spandrelref18_few.f k l a) := by
  induction n with
  | zero => intro l h; omega
  | succ n ih =>
    intro l hl hm ho a
    refine Ends.step (fun k => ?_) (few_l0 l hm ho (fun l' h1 h2 h3 => ih l' (by omega) h2 h3) l.length 0 a (by omega))
    simp only [spandrelref18_few.f]
    rfl
theorem Few_l0 (l : List Func) (hl : l.length ≤ M) (ho : ∀ x ∈ l, okF x) (n : Nat) : ∀ (i : Nat) (a : Int), i + n = l.length → Ends (fun k => spandrelref18_Few.l0 k l a i) := by
  have hM : l.length ≤ 140737488351232 := hl
  induction n with
  | zero =>
    intro i a hi
    refine Ends.step (f := fun _ => some (decide (a ≥ 0))) (fun k => ?_) (Ends.now _)
    simp only [spandrelref18_Few.l0]
    rw [if_neg (by omega)]
  | succ n ih =>
    intro i a hi
    have hlt : i < l.length := by omega
    have hg := List.getElem?_eq_getElem hlt
    generalize l[i] = f at *
    have hf := ho f (List.mem_of_getElem? hg)
    have hr := rd34 hg
    have hw := wrap_nat i (by omega)
    by_cases ha : a ≥ 0
    · refine Ends.step (f := fun k => (spandrelref18_few.f k f.f1 (wrap64 ((wrap64 (a - 1)) - (f.f0.size : Int)))).bind fun t125 => (spandrelref18_Few.l0 k l t125 ((i + 1 : Nat) : Int))) (fun k => ?_) (Ends.bind (f := fun k t125 => (spandrelref18_Few.l0 k l t125 ((i + 1 : Nat) : Int))) (few_f _ f.f1 (Nat.lt_succ_self _) hf.2.1 hf.2.2 _) fun b => ih (i + 1) b (by omega))
      simp only [spandrelref18_Few.l0]
      rw [if_pos (by omega), if_pos ha, if_pos (by omega), hr, hw]
    · refine Ends.step (f := fun _ => some (decide (a ≥ 0))) (fun k => ?_) (Ends.now _)
      simp only [spandrelref18_Few.l0]
      rw [if_pos (by omega), if_neg ha]
theorem Few_f (l : List Func) (hl : l.length ≤ M) (ho : ∀ x ∈ l, okF x) (a : Int) : Ends (fun k => spandrelref18_Few.f k l a) := Few_l0 l hl ho l.length 0 a (by omega)
end Go.Proofs.Ytbjddomocggjmaa.Fc
