/- The reference of layer 12: plain, and its walks; the law's awake. -/
import Derived.Test.YtkidoggmlafkgaaBdM
import Derived.Test.YtkidoggmlafkgaaPFewConx1
import Derived.Test.YtkidoggmlafkgaaRf
import Derived.Test.YtkidoggmlafkgaaBdQ
/- The reference of layer 12, plain: In; how few a constraint has; where what it lets in can change. -/
namespace Go.Proofs.Ytkidoggmlafkgaa.Bd
open Go.RowKit Go.Proofs.Ytkidoggmlafkgaa.Span Go.Proofs.YtkidoggmlafkgaaW.PrintWords Go.Proofs.YtkidoggmlafkgaaW.PrintMore

theorem rd36 (l : List Con) (i : Nat) (c : Con) (h : l[i]? = some c) : PIn.rd_T36 l i = c := by
  unfold PIn.rd_T36
  rw [List.getD_eq_getElem?_getD, show ((i : Int)).toNat = i from by omega, h]
  rfl
section
variable (n : Int) (room : Nat) (hroom : room ≤ 40) (IH : ∀ c : Con, sizeC c ≤ 1000 → Ev (fun k => PIn.spandrelref12_in.f k c.f0 c.f1 c.f2 c.f3 c.f4 c.f5 n (41 - (room : Int))) (inB room c n))
include hroom IH
theorem in_l0 (a b c : Int) (d e : Bool) (l : List Con) (hl : sizeL l ≤ 1000) (m : Nat) : ∀ i : Nat, i + m = l.length → Ev (fun k => PIn.spandrelref12_in.l0 k n (40 - (room : Int)) i a b c d e l) ((l.drop i).any (inB room · n)) := by
  have hll := sizeL_length l
  induction m with
  | zero =>
    intro i hi
    refine Ev.step (f := fun _ => some ((l.drop i).any (inB room · n))) (fun k => ?_) (Ev.now _)
    rw [List.drop_of_length_le (by omega)]
    simp only [PIn.spandrelref12_in.l0]
    rw [if_neg (by omega)]
    rfl
  | succ m ih =>
    intro i hi
    obtain ⟨x, hx⟩ : ∃ x, l[i]? = some x := ⟨_, List.getElem?_eq_getElem (by omega)⟩
    have hxs := sizeL_mem (List.mem_of_getElem? hx)
    have hnext := ih (i + 1) (by omega)
    rw [drop_at hx, List.any_cons]
    refine Ev.step (f := fun k => (PIn.spandrelref12_in.f k x.f0 x.f1 x.f2 x.f3 x.f4 x.f5 n (41 - (room : Int))).bind fun t => if t = true then some true else PIn.spandrelref12_in.l0 k n (40 - (room : Int)) ((i + 1 : Nat) : Int) a b c d e l) (fun k => ?_) ?_
    · simp only [PIn.spandrelref12_in.l0]
      rw [if_pos (by omega), if_pos (by omega), rd36 l i x hx, wrap_in (by omega) (by omega), wrap_in (by omega) (by omega), show 40 - (room : Int) + 1 = 41 - (room : Int) from by omega]
      rfl
    · refine Ev.bind (f := fun k t => if t = true then some true else PIn.spandrelref12_in.l0 k n (40 - (room : Int)) ((i + 1 : Nat) : Int) a b c d e l) (IH x (by omega)) ?_
      cases inB room x n with
      | true => exact Ev.now _
      | false => simpa using hnext
theorem in_l1 (a b c : Int) (d e : Bool) (l : List Con) (hl : sizeL l ≤ 1000) (m : Nat) : ∀ i : Nat, i + m = l.length → Ev (fun k => PIn.spandrelref12_in.l1 k n (40 - (room : Int)) i a b c d e l) ((l.drop i).all (inB room · n)) := by
  have hll := sizeL_length l
  induction m with
  | zero =>
    intro i hi
    refine Ev.step (f := fun _ => some ((l.drop i).all (inB room · n))) (fun k => ?_) (Ev.now _)
    rw [List.drop_of_length_le (by omega)]
    simp only [PIn.spandrelref12_in.l1]
    rw [if_neg (by omega)]
    rfl
  | succ m ih =>
    intro i hi
    obtain ⟨x, hx⟩ : ∃ x, l[i]? = some x := ⟨_, List.getElem?_eq_getElem (by omega)⟩
    have hxs := sizeL_mem (List.mem_of_getElem? hx)
    have hnext := ih (i + 1) (by omega)
    rw [drop_at hx, List.all_cons]
    refine Ev.step (f := fun k => (PIn.spandrelref12_in.f k x.f0 x.f1 x.f2 x.f3 x.f4 x.f5 n (41 - (room : Int))).bind fun t => if t = true then PIn.spandrelref12_in.l1 k n (40 - (room : Int)) ((i + 1 : Nat) : Int) a b c d e l else some false) (fun k => ?_) ?_
    · simp only [PIn.spandrelref12_in.l1]
      rw [if_pos (by omega), if_pos (by omega), rd36 l i x hx, wrap_in (by omega) (by omega), wrap_in (by omega) (by omega), show 40 - (room : Int) + 1 = 41 - (room : Int) from by omega]
      rfl
    · refine Ev.bind (f := fun k t => if t = true then PIn.spandrelref12_in.l1 k n (40 - (room : Int)) ((i + 1 : Nat) : Int) a b c d e l else some false) (IH x (by omega)) ?_
      cases inB room x n with
      | true => simpa using hnext
      | false => exact Ev.now _
theorem in_l2 (a b c : Int) (d e : Bool) (l : List Con) (hl : sizeL l ≤ 1000) (m : Nat) : ∀ i : Nat, 0 < i → i + m = l.length → Ev (fun k => PIn.spandrelref12_in.l2 k n (40 - (room : Int)) i a b c d e l) ((l.drop i).all fun x => !inB room x n) := by
  have hll := sizeL_length l
  induction m with
  | zero =>
    intro i _ hi
    refine Ev.step (f := fun _ => some ((l.drop i).all fun x => !inB room x n)) (fun k => ?_) (Ev.now _)
    rw [List.drop_of_length_le (by omega)]
    simp only [PIn.spandrelref12_in.l2]
    rw [if_neg (by omega)]
    rfl
  | succ m ih =>
    intro i hi0 hi
    obtain ⟨x, hx⟩ : ∃ x, l[i]? = some x := ⟨_, List.getElem?_eq_getElem (by omega)⟩
    have hxs := sizeL_mem (List.mem_of_getElem? hx)
    have hnext := ih (i + 1) (by omega) (by omega)
    have hne : ((i : Int) == 0) = false := by rw [beq_eq_false_iff_ne]; omega
    rw [drop_at hx, List.all_cons]
    refine Ev.step (f := fun k => (PIn.spandrelref12_in.f k x.f0 x.f1 x.f2 x.f3 x.f4 x.f5 n (41 - (room : Int))).bind fun t => if (t != false) = true then some false else PIn.spandrelref12_in.l2 k n (40 - (room : Int)) ((i + 1 : Nat) : Int) a b c d e l) (fun k => ?_) ?_
    · simp only [PIn.spandrelref12_in.l2]
      rw [if_pos (by omega), if_pos (by omega), rd36 l i x hx, wrap_in (by omega) (by omega), wrap_in (by omega) (by omega), show 40 - (room : Int) + 1 = 41 - (room : Int) from by omega, hne]
      rfl
    · refine Ev.bind (f := fun k t => if (t != false) = true then some false else PIn.spandrelref12_in.l2 k n (40 - (room : Int)) ((i + 1 : Nat) : Int) a b c d e l) (IH x (by omega)) ?_
      cases inB room x n with
      | true => exact Ev.now _
      | false => simpa using hnext
theorem in_l2z (a b c : Int) (d e : Bool) (l : List Con) (hl : sizeL l ≤ 1000) : Ev (fun k => PIn.spandrelref12_in.l2 k n (40 - (room : Int)) 0 a b c d e l) (exceptB (l.map (inB room · n))) := by
  cases l with
  | nil =>
    refine Ev.step (f := fun _ => some true) (fun k => ?_) (Ev.now _)
    simp only [PIn.spandrelref12_in.l2]
    rw [if_neg (by simp)]
  | cons x l =>
    have hxs := sizeL_mem (List.mem_cons_self (a := x) (l := l))
    have hnext := in_l2 n room hroom IH a b c d e (x :: l) hl l.length 1 (by omega) (by simp; omega)
    refine Ev.step (f := fun k => (PIn.spandrelref12_in.f k x.f0 x.f1 x.f2 x.f3 x.f4 x.f5 n (41 - (room : Int))).bind fun t => if (t != true) = true then some false else PIn.spandrelref12_in.l2 k n (40 - (room : Int)) ((1 : Nat) : Int) a b c d e (x :: l)) (fun k => ?_) ?_
    · simp only [PIn.spandrelref12_in.l2]
      rw [if_pos (by simp), if_pos (by omega), wrap_in (by omega) (by omega), wrap_in (by omega) (by omega), show 40 - (room : Int) + 1 = 41 - (room : Int) from by omega]
      rfl
    · refine Ev.bind (f := fun k t => if (t != true) = true then some false else PIn.spandrelref12_in.l2 k n (40 - (room : Int)) ((1 : Nat) : Int) a b c d e (x :: l)) (IH x (by omega)) ?_
      rw [List.map_cons]
      unfold exceptB
      cases inB room x n with
      | false => exact Ev.now _
      | true => simpa [List.all_map, Function.comp_def] using hnext
end
theorem in_ev (n : Int) (room : Nat) : room ≤ 40 → ∀ c : Con, sizeC c ≤ 1000 → Ev (fun k => PIn.spandrelref12_in.f k c.f0 c.f1 c.f2 c.f3 c.f4 c.f5 n (41 - (room : Int))) (inB room c n) := by
  induction room with
  | zero =>
    intro _ c _
    refine Ev.step (f := fun _ => some false) (fun k => ?_) (Ev.now _)
    simp only [PIn.spandrelref12_in.f]
    rw [if_pos (by omega)]
  | succ room ih =>
    intro hr c hc
    have IH := ih (by omega)
    have hl : sizeL c.f5 ≤ 1000 := by have := sizeC_eq c; omega
    have e40 : 41 - ((room + 1 : Nat) : Int) = 40 - (room : Int) := by omega
    rw [e40, inB_succ]
    have hne : ¬ (40 - (room : Int) > 40) := by omega
    by_cases h0 : c.f0 = 0
    · refine Ev.step (f := fun _ => some true) (fun k => ?_) (by rw [if_pos h0]; exact Ev.now _)
      simp only [PIn.spandrelref12_in.f]
      rw [if_neg hne, if_pos h0]
    · rw [if_neg h0]
      by_cases h1 : c.f0 = 1
      · rw [if_pos h1]
        refine Ev.step (f := fun _ => some (leafB c n)) (fun k => ?_) (Ev.now _)
        simp only [PIn.spandrelref12_in.f]
        rw [if_neg hne, if_neg h0, if_pos h1]
        unfold leafB
        cases c.f3 <;> cases c.f4 <;> simp
        · by_cases h : c.f1 ≤ n <;> simp [h]
        · by_cases h : c.f1 ≤ n <;> simp [h]
      · rw [if_neg h1]
        by_cases h2 : c.f0 = 2
        · rw [if_pos h2]
          refine Ev.step (f := fun k => PIn.spandrelref12_in.l0 k n (40 - (room : Int)) 0 c.f0 c.f1 c.f2 c.f3 c.f4 c.f5) (fun k => ?_) ?_
          · simp only [PIn.spandrelref12_in.f]
            rw [if_neg hne, if_neg h0, if_neg h1, if_pos h2]
          · have h := in_l0 n room (by omega) IH c.f0 c.f1 c.f2 c.f3 c.f4 c.f5 hl c.f5.length 0 (by omega)
            rw [List.drop_zero] at h
            exact h
        · rw [if_neg h2]
          by_cases h3 : c.f0 = 3
          · rw [if_pos h3]
            refine Ev.step (f := fun k => PIn.spandrelref12_in.l1 k n (40 - (room : Int)) 0 c.f0 c.f1 c.f2 c.f3 c.f4 c.f5) (fun k => ?_) ?_
            · simp only [PIn.spandrelref12_in.f]
              rw [if_neg hne, if_neg h0, if_neg h1, if_neg h2, if_pos h3]
            · have h := in_l1 n room (by omega) IH c.f0 c.f1 c.f2 c.f3 c.f4 c.f5 hl c.f5.length 0 (by omega)
              rw [List.drop_zero] at h
              exact h
          · rw [if_neg h3]
            by_cases h4 : c.f0 = 4
            · rw [if_pos h4]
              refine Ev.step (f := fun k => PIn.spandrelref12_in.l2 k n (40 - (room : Int)) 0 c.f0 c.f1 c.f2 c.f3 c.f4 c.f5) (fun k => ?_) (in_l2z n room (by omega) IH c.f0 c.f1 c.f2 c.f3 c.f4 c.f5 hl)
              simp only [PIn.spandrelref12_in.f]
              rw [if_neg hne, if_neg h0, if_neg h1, if_neg h2, if_neg h3, if_pos h4]
            · rw [if_neg h4]
              refine Ev.step (f := fun _ => some false) (fun k => ?_) (Ev.now _)
              simp only [PIn.spandrelref12_in.f]
              rw [if_neg hne, if_neg h0, if_neg h1, if_neg h2, if_neg h3, if_neg h4]
theorem In_ev (c : Con) (n : Int) (hc : sizeC c ≤ 1000) : Ev (fun k => PIn.spandrelref12_In.f k c.f0 c.f1 c.f2 c.f3 c.f4 c.f5 n) (inB 40 c n) := by
  unfold PIn.spandrelref12_In.f
  refine Ev.bind (f := fun _ t => some t) ?_ (Ev.now _)
  exact in_ev n 40 (Nat.le_refl _) c hc

/-! ### Where what a constraint lets in can change -/
/-- A constraint's own ends. -/
def ownE (c : Con) : List Rg := (if c.f0 = 1 ∧ c.f3 = false then [(c.f1, c.f1)] else []) ++ (if c.f0 = 1 ∧ c.f4 = false ∧ c.f2 < maxI then [(c.f2 + 1, c.f2 + 1)] else [])
def endsL : Nat → Con → List Rg
  | 0, c => ownE c
  | d + 1, c => ownE c ++ c.f5.flatMap (endsL d)
theorem endsL_succ (d : Nat) (c : Con) : endsL (d + 1) c = ownE c ++ c.f5.flatMap (endsL d) := rfl
theorem ownE_length (c : Con) : (ownE c).length ≤ 2 := by
  unfold ownE
  rw [List.length_append]
  split <;> split <;> simp
theorem endsL_length (d : Nat) : ∀ c : Con, (endsL d c).length ≤ 2 * sizeC c := by
  induction d with
  | zero =>
    intro c
    have := ownE_length c
    have := sizeC_pos c
    show (ownE c).length ≤ _
    omega
  | succ d ih =>
    intro c
    have h1 := ownE_length c
    have h2 : ∀ l : List Con, (l.flatMap (endsL d)).length ≤ 2 * sizeL l := by
      intro l
      induction l with
      | nil => simp
      | cons x l ihl =>
        have := ih x
        rw [List.flatMap_cons, List.length_append]
        simp only [sizeL]
        omega
    have h3 := h2 c.f5
    have h4 := sizeC_eq c
    rw [endsL_succ, List.length_append]
    omega
theorem ownE_ok {d : Nat} {c : Con} (h : okD (d + 1) c) : ∀ r ∈ ownE c, okR r := by
  obtain ⟨h1, _⟩ := h
  unfold okR at h1
  simp only at h1
  intro r hr
  unfold ownE at hr
  rcases List.mem_append.1 hr with hr | hr
  · split at hr
    · obtain rfl := List.mem_singleton.1 hr
      unfold okR
      simp only
      omega
    · cases hr
  · split at hr
    · rename_i hc
      obtain rfl := List.mem_singleton.1 hr
      have := hc.2.2
      unfold okR
      simp only
      omega
    · cases hr
theorem endsL_ok (d : Nat) : ∀ c : Con, okD (d + 1) c → ∀ r ∈ endsL d c, okR r := by
  induction d with
  | zero => intro c h; exact ownE_ok h
  | succ d ih =>
    intro c h r hr
    rw [endsL_succ] at hr
    rcases List.mem_append.1 hr with hr | hr
    · exact ownE_ok h r hr
    · obtain ⟨x, hx, hr⟩ := List.mem_flatMap.1 hr
      exact ih x (h.2 x hx) r hr
theorem ownE_sub (d : Nat) (c : Con) : ∀ z ∈ ownE c, z ∈ endsL d c := by
  intro z hz
  cases d with
  | zero => exact hz
  | succ d => rw [endsL_succ]; exact List.mem_append_left _ hz
theorem leaf_const {x n : Int} (hxn : x ≤ n) (hn : n ≤ maxI) (c : Con) (h1 : c.f0 = 1) (hc : ∀ z ∈ ownE c, ¬ (x < z.1 ∧ z.1 ≤ n)) : leafB c n = leafB c x := by
  unfold leafB
  have a1 : c.f3 = false → ¬ (x < c.f1 ∧ c.f1 ≤ n) := fun h3 => hc (c.f1, c.f1) (by
    unfold ownE
    rw [if_pos ⟨h1, h3⟩]
    exact List.mem_append_left _ (by simp))
  have a2 : c.f4 = false → c.f2 < maxI → ¬ (x < c.f2 + 1 ∧ c.f2 + 1 ≤ n) := fun h4 h5 => hc (c.f2 + 1, c.f2 + 1) (by
    unfold ownE
    rw [if_pos (⟨h1, h4, h5⟩ : c.f0 = 1 ∧ c.f4 = false ∧ c.f2 < maxI)]
    exact List.mem_append_right _ (by simp))
  have e1 : (c.f3 || decide (c.f1 ≤ n)) = (c.f3 || decide (c.f1 ≤ x)) := by
    cases h3 : c.f3 with
    | true => rfl
    | false =>
      have := a1 h3
      rw [Bool.eq_iff_iff]
      simp only [Bool.false_or, decide_eq_true_eq]
      omega
  have e2 : (c.f4 || decide (n ≤ c.f2)) = (c.f4 || decide (x ≤ c.f2)) := by
    cases h4 : c.f4 with
    | true => rfl
    | false =>
      rw [Bool.eq_iff_iff]
      simp only [Bool.false_or, decide_eq_true_eq]
      by_cases h5 : c.f2 < maxI
      · have := a2 h4 h5
        omega
      · omega
  rw [e1, e2]
/-- Between two cuts a constraint lets all in or nothing. -/
theorem inB_const (x n : Int) (hxn : x ≤ n) (hn : n ≤ maxI) (room : Nat) : ∀ (d : Nat) (c : Con), room ≤ d + 1 → (∀ z ∈ endsL d c, ¬ (x < z.1 ∧ z.1 ≤ n)) → inB room c n = inB room c x := by
  induction room with
  | zero => intro d c _ _; rfl
  | succ room ih =>
    intro d c hd hc
    have hch : ∀ y ∈ c.f5, inB room y n = inB room y x := by
      intro y hy
      cases d with
      | zero =>
        obtain rfl : room = 0 := by omega
        rfl
      | succ d =>
        refine ih d y (by omega) fun z hz => hc z ?_
        rw [endsL_succ]
        exact List.mem_append_right _ (List.mem_flatMap.2 ⟨y, hy, hz⟩)
    rw [inB_succ, inB_succ]
    split
    · rfl
    · split
      · rename_i h1
        exact leaf_const hxn hn c h1 fun z hz => hc z (ownE_sub d c z hz)
      · split
        · rw [Bool.eq_iff_iff, List.any_eq_true, List.any_eq_true]
          constructor
          · rintro ⟨y, hy, h⟩; exact ⟨y, hy, by rw [← hch y hy]; exact h⟩
          · rintro ⟨y, hy, h⟩; exact ⟨y, hy, by rw [hch y hy]; exact h⟩
        · split
          · rw [Bool.eq_iff_iff, List.all_eq_true, List.all_eq_true]
            constructor
            · intro h y hy; rw [← hch y hy]; exact h y hy
            · intro h y hy; rw [hch y hy]; exact h y hy
          · split
            · rw [List.map_congr_left hch]
            · rfl

/-! ### How few there are -/
mutual
/-- The same constraint, in the words of FewCon's print. -/
def cv : Con → PFewCon.S36
  | ⟨a, b, c, d, e, l⟩ => ⟨a, b, c, d, e, cvL l⟩
def cvL : List Con → List PFewCon.S36
  | [] => []
  | x :: l => cv x :: cvL l
end
theorem cvL_map (l : List Con) : cvL l = l.map cv := by
  induction l with
  | nil => rfl
  | cons x l ih => simp only [cvL, List.map_cons, ih]
theorem cv_eq (c : Con) : cv c = ⟨c.f0, c.f1, c.f2, c.f3, c.f4, c.f5.map cv⟩ := by
  obtain ⟨a, b, d, e, f, l⟩ := c
  simp only [cv, cvL_map]
theorem rdF36 (l : List Con) (i : Nat) (c : Con) (h : l[i]? = some c) : PFewCon.rd_T36 (l.map cv) i = cv c := by
  unfold PFewCon.rd_T36
  rw [List.getD_eq_getElem?_getD, show ((i : Int)).toNat = i from by omega, List.getElem?_map, h]
  rfl
/-- What is left when so many are taken. -/
def leftR (s : Nat) (left r : Int) : Prop := ((s : Int) ≤ left ∧ r = left - s) ∨ (left < s ∧ r = -1)
theorem few_l0 (m : Nat) (IH : ∀ (c : Con) (left : Int), 0 ≤ left → left < m → left ≤ 1000 → ∃ r, Ev (fun k => PFewCon.spandrelref08_fewCon.f k (cv c).f0 (cv c).f1 (cv c).f2 (cv c).f3 (cv c).f4 (cv c).f5 left) r ∧ leftR (sizeC c) left r) (a b c : Int) (d e : Bool) (l : List Con) (q : Nat) :
    ∀ (i : Nat) (left : Int), i + q = l.length → -1 ≤ left → left < m → left ≤ 1000 → (i : Int) + left ≤ 2000 → ∃ r, Ev (fun k => PFewCon.spandrelref08_fewCon.l0 k left i a b c d e (l.map cv)) r ∧ ((left = -1 ∧ r = -1) ∨ (0 ≤ left ∧ leftR (sizeL (l.drop i)) left r)) := by
  induction q with
  | zero =>
    intro i left hi h1 h2 h3 h4
    refine ⟨left, ?_, ?_⟩
    · refine Ev.step (f := fun _ => some left) (fun k => ?_) (Ev.now _)
      simp only [PFewCon.spandrelref08_fewCon.l0, List.length_map]
      rw [if_neg (by omega)]
    · rw [List.drop_of_length_le (by omega)]
      by_cases h : left = -1
      · exact .inl ⟨h, h⟩
      · exact .inr ⟨by omega, .inl ⟨by simp only [sizeL]; omega, by simp only [sizeL]; omega⟩⟩
  | succ q ih =>
    intro i left hi h1 h2 h3 h4
    by_cases h : left = -1
    · refine ⟨-1, ?_, .inl ⟨h, rfl⟩⟩
      refine Ev.step (f := fun _ => some left) (fun k => ?_) (by rw [h]; exact Ev.now _)
      simp only [PFewCon.spandrelref08_fewCon.l0, List.length_map]
      rw [if_pos (by omega), if_neg (by omega)]
    · obtain ⟨x, hx⟩ : ∃ x, l[i]? = some x := ⟨_, List.getElem?_eq_getElem (by omega)⟩
      have hd := sizeL_drop hx
      have hp := sizeC_pos x
      obtain ⟨r1, hr1, hl1⟩ := IH x left (by omega) h2 h3
      have hb : -1 ≤ r1 ∧ r1 ≤ left - 1 := by
        rcases hl1 with ⟨_, e⟩ | ⟨_, e⟩ <;> omega
      obtain ⟨r, hr, hl⟩ := ih (i + 1) r1 (by omega) hb.1 (by omega) (by omega) (by omega)
      refine ⟨r, ?_, ?_⟩
      · refine Ev.step (f := fun k => (PFewCon.spandrelref08_fewCon.f k (cv x).f0 (cv x).f1 (cv x).f2 (cv x).f3 (cv x).f4 (cv x).f5 left).bind fun t => PFewCon.spandrelref08_fewCon.l0 k t ((i + 1 : Nat) : Int) a b c d e (l.map cv)) (fun k => ?_) (Ev.bind (f := fun k t => PFewCon.spandrelref08_fewCon.l0 k t ((i + 1 : Nat) : Int) a b c d e (l.map cv)) hr1 hr)
        simp only [PFewCon.spandrelref08_fewCon.l0, List.length_map]
        rw [if_pos (by omega), if_pos (by omega), if_pos (by omega), rdF36 l i x hx, wrap_in (by omega) (by omega)]
        rfl
      · refine .inr ⟨by omega, ?_⟩
        rw [hd]
        unfold leftR at *
        rcases hl1 with ⟨g1, g2⟩ | ⟨g1, g2⟩
        · rcases hl with ⟨g3, g4⟩ | ⟨g3, g4⟩
          · exact absurd g3 (by omega)
          · rcases g4 with ⟨g5, g6⟩ | ⟨g5, g6⟩
            · exact .inl ⟨by omega, by omega⟩
            · exact .inr ⟨by omega, g6⟩
        · rcases hl with ⟨g3, g4⟩ | ⟨g3, g4⟩
          · exact .inr ⟨by omega, g4⟩
          · exact absurd g3 (by omega)
theorem few_ev (m : Nat) : ∀ (c : Con) (left : Int), 0 ≤ left → left < m → left ≤ 1000 → ∃ r, Ev (fun k => PFewCon.spandrelref08_fewCon.f k (cv c).f0 (cv c).f1 (cv c).f2 (cv c).f3 (cv c).f4 (cv c).f5 left) r ∧ leftR (sizeC c) left r := by
  induction m with
  | zero => intro c left h1 h2; omega
  | succ m ih =>
    intro c left h1 h2 h3
    obtain ⟨r, hr, hl⟩ := few_l0 m ih c.f0 c.f1 c.f2 c.f3 c.f4 c.f5 c.f5.length 0 (left - 1) (by omega) (by omega) (by omega) (by omega) (by omega)
    refine ⟨r, ?_, ?_⟩
    · refine Ev.step (f := fun k => PFewCon.spandrelref08_fewCon.l0 k (left - 1) ((0 : Nat) : Int) c.f0 c.f1 c.f2 c.f3 c.f4 (c.f5.map cv)) (fun k => ?_) hr
      rw [cv_eq]
      simp only [PFewCon.spandrelref08_fewCon.f]
      rw [wrap_in (by omega) (by omega)]
      rfl
    · have hs := sizeC_eq c
      rw [List.drop_zero] at hl
      unfold leftR at *
      rcases hl with ⟨g1, g2⟩ | ⟨g1, g2⟩
      · exact .inr ⟨by omega, g2⟩
      · rcases g2 with ⟨g3, g4⟩ | ⟨g3, g4⟩
        · exact .inl ⟨by omega, by omega⟩
        · exact .inr ⟨by omega, g4⟩
theorem FewCon_ev (c : Con) (n : Nat) (hn : n ≤ 1000) : Ev (fun k => PFewCon.spandrelref08_FewCon.f k (cv c).f0 (cv c).f1 (cv c).f2 (cv c).f3 (cv c).f4 (cv c).f5 n) (decide (sizeC c ≤ n)) := by
  obtain ⟨r, hr, hl⟩ := few_ev (n + 1) c n (by omega) (by omega) (by omega)
  unfold PFewCon.spandrelref08_FewCon.f
  have e : decide (sizeC c ≤ n) = decide (r ≥ 0) := by
    unfold leftR at hl
    rw [Bool.eq_iff_iff]
    simp only [decide_eq_true_eq]
    omega
  rw [e]
  exact Ev.bind (f := fun _ t => some (decide (t ≥ 0))) hr (Ev.now _)
end Go.Proofs.Ytkidoggmlafkgaa.Bd

/- The reference of layer 12: what In and FewCon answer. -/
namespace Go.Proofs.Ytkidoggmlafkgaa.Bd
open Go.RowKit Go.Proofs.Ytkidoggmlafkgaa.Sep Go.Proofs.Ytkidoggmlafkgaa.Span Go.Proofs.YtkidoggmlafkgaaW.PrintWords Go.Proofs.YtkidoggmlafkgaaW.PrintMore
variable {w0 w : World} {R : HP}

theorem C_map {α β : Type} {d : Kd α} {d' : Kd β} {w : World} {A : Option Addr} {xs : List α} (f : α → β) (hsz : d.sz = d'.sz) (hK : ∀ x cs, d.K w x cs → d'.K w (f x) cs) (h : Kd.C d w A xs.length xs) : Kd.C d' w A (xs.map f).length (xs.map f) := by
  obtain ⟨_, h2, h3⟩ := h
  refine ⟨rfl, by rw [List.length_map]; exact h2, fun hn => ?_⟩
  obtain ⟨ad, e, hc⟩ := h3 (by rwa [List.length_map] at hn)
  refine ⟨ad, e, fun j p hp => ?_⟩
  rw [List.getElem?_map] at hp
  obtain ⟨x, hx, rfl⟩ := Option.map_eq_some_iff.1 hp
  obtain ⟨c, h4, h5, h6⟩ := hc j x hx
  rw [← hsz]
  exact ⟨c, h4, hK x c h5, h6⟩
theorem k_cv (w : World) (n : Nat) : ∀ (x : Con) (cs : List Value), (Kd.upto PIn.F36 6 [36] n).K w x cs → PFewCon.k36.K w (cv x) cs := by
  induction n with
  | zero => intro x cs h; exact h.elim
  | succ n ih =>
    intro x cs h
    obtain ⟨_, _, rfl, rfl, ⟨_, _, rfl, rfl, ⟨_, _, rfl, rfl, ⟨_, _, rfl, rfl, ⟨_, _, rfl, rfl, ⟨A5, c5, rfl, l5, g5⟩⟩⟩⟩⟩⟩ := h
    have g6 := C_map (d' := PFewCon.k36) cv (PIn.sz36 n) ih g5
    have h7 := PFewCon.k36_mk w (cv x) (A5 := A5) (c5 := c5) (by rw [cv_eq]; simpa using l5) (by rw [cv_eq]; exact g6)
    rw [cv_eq] at h7 ⊢
    simp only [List.length_map] at h7
    exact h7
theorem RC.cv {W : World} {A : Option Addr} {l : List Con} (h : RC W A l) : Kd.C PFewCon.k36 W A (l.map cv).length (l.map cv) := by
  refine C_map (d := PIn.k36) Bd.cv rfl ?_ h
  rintro x cs ⟨n, hn⟩
  exact k_cv W n x cs hn

theorem in_calls (c : Con) (n : Int) (A : Option Addr) (cap : Nat) (h : St w0.heap.size w0 w R) (hl : RC w0 A c.f5) (hcap : c.f5.length ≤ cap) (hsz : sizeC c ≤ 1000) :
    Calls Try.prog 34 #[.agg #[.int .i64 c.f0, .int .i64 c.f1, .int .i64 c.f2, .bool c.f3, .bool c.f4, .slice A c.f5.length cap], .int .i64 n] w fun e w' =>
      e = .returned (.bool (inB 40 c n)) ∧ St w0.heap.size w0 w' R := by
  obtain ⟨k, hk⟩ := (In_ev c n hsz).rounds
  refine Calls.mono (PIn.spandrelref12_In.calls k c.f0 c.f1 c.f2 c.f3 c.f4 A cap c.f5 n _ w (hl.below h.below) hcap hk) ?_
  rintro e w' ⟨rfl, hb⟩
  exact ⟨rfl, St.after h hb⟩
theorem few_calls (c : Con) (n : Nat) (hn : n ≤ 1000) (A : Option Addr) (cap : Nat) (h : St w0.heap.size w0 w R) (hl : RC w0 A c.f5) (hcap : c.f5.length ≤ cap) :
    Calls Try.prog 29 #[.agg #[.int .i64 c.f0, .int .i64 c.f1, .int .i64 c.f2, .bool c.f3, .bool c.f4, .slice A c.f5.length cap], .int .i64 n] w fun e w' =>
      e = .returned (.bool (decide (sizeC c ≤ n))) ∧ St w0.heap.size w0 w' R := by
  obtain ⟨k, hk⟩ := (FewCon_ev c n hn).rounds
  rw [cv_eq] at hk
  have hcall := PFewCon.spandrelref08_FewCon.calls k c.f0 c.f1 c.f2 c.f3 c.f4 A cap (c.f5.map cv) n _ w (RC.cv (hl.below h.below)) (by rw [List.length_map]; exact hcap) hk
  rw [List.length_map] at hcall
  refine Calls.mono hcall ?_
  rintro e w' ⟨rfl, hb⟩
  exact ⟨rfl, St.after h hb⟩
theorem same12_calls {B : Nat} (va vb : Value) (s t : List Rg) (h : St B w0 w R) (ha : ∀ W, St B w0 W R → R2 W va s) (hb : ∀ W, St B w0 W R → R2 W vb t) :
    Calls Try.prog 30 #[va, vb] w fun e w' => e = .returned (.bool (decide (s = t))) ∧ St B w0 w' R := by
  have H := Lib.hid (And.intro h (And.intro ha hb))
  clear h ha hb
  go_enter Try.func30, Try.ntmps30
  go_wp2_with fail
  refine (rsame_calls va vb s t H.out.1 H.out.2.1 H.out.2.2).mono ?_
  rintro e w1 ⟨rfl, h2⟩
  have H2 := Lib.hid h2
  clear h2
  go_wp2
  go_ret
  exact ⟨rfl, H2.out⟩
theorem bsize_calls {B : Nat} (h : St B w0 w R) : Calls Try.prog 47 #[] w fun e w' => ∃ v, e = .returned v ∧ St B w0 w' (Row2 v [(0, maxI)] • R) := by
  have H := Lib.hid h
  clear h
  go_enter Try.func47, Try.ntmps47
  go_wp2
  go_ret
  exact ⟨_, rfl, lit [(0, maxI)] (H.out.alloc _) rfl (by decide)⟩
end Go.Proofs.Ytkidoggmlafkgaa.Bd

/- The walk of the reference's ends. -/
namespace Go.Proofs.Ytkidoggmlafkgaa.Bd
open Go.RowKit Go.Proofs.Ytkidoggmlafkgaa.Sep Go.Proofs.Ytkidoggmlafkgaa.Span Go.Proofs.YtkidoggmlafkgaaW.PrintWords
variable {w0 w : World} {R : HP}

def kidsE : Nat → Con → Nat → List Rg
  | 0, _, _ => []
  | d + 1, c, k => (c.f5.take k).flatMap (endsL d)
theorem kidsE_succ (d : Nat) (c : Con) (k : Nat) : kidsE (d + 1) c k = (c.f5.take k).flatMap (endsL d) := rfl
theorem ends_own (d : Nat) (c : Con) (k : Nat) (h : d = 0 ∨ k = c.f5.length) : endsL d c = ownE c ++ kidsE d c k := by
  cases d with
  | zero => exact (List.append_nil _).symm
  | succ d =>
    rcases h with h | h
    · omega
    · subst h
      rw [endsL_succ, kidsE_succ, List.take_length]
theorem kids_length (d : Nat) (c : Con) (k : Nat) : (kidsE d c k).length ≤ 2 * sizeL (c.f5.take k) := by
  cases d with
  | zero => simp [kidsE]
  | succ d =>
    rw [kidsE_succ]
    generalize c.f5.take k = l
    clear k
    induction l with
    | nil => exact Nat.zero_le _
    | cons x l ih =>
      have := endsL_length d x
      rw [List.flatMap_cons, List.length_append]
      simp only [sizeL]
      omega
theorem sizeL_take_add (l : List Con) (k : Nat) (x : Con) (h : l[k]? = some x) : sizeL (l.take (k + 1)) = sizeL (l.take k) + sizeC x := by
  induction l generalizing k with
  | nil => simp at h
  | cons y l ih =>
    cases k with
    | zero =>
      simp only [List.getElem?_cons_zero, Option.some.injEq] at h
      subst h
      simp [sizeL]
    | succ k =>
      have := ih k (by simpa using h)
      rw [List.take_succ_cons, List.take_succ_cons]
      simp only [sizeL]
      omega
theorem sizeL_take (l : List Con) (k : Nat) : sizeL (l.take k) ≤ sizeL l := by
  induction l generalizing k with
  | nil => simp
  | cons x l ih =>
    cases k with
    | zero => simp [sizeL]
    | succ k =>
      have := ih k
      rw [List.take_succ_cons]
      simp only [sizeL]
      omega
def EndsPost (w0 : World) (R : HP) (l : List Rg) (e : Ending) (w' : World) : Prop := ∃ v', e = .returned v' ∧ St w0.heap.size w0 w' (Row2 v' l • R)
/-- What the reference's ends does with d levels below. -/
def RendsAt (d : Nat) : Prop := ∀ (w0 w : World) (R : HP) (c : Con) (A : Option Addr) (cap : Nat) (v0 : Value) (s : List Rg) (deep : Int), deep + d = 41 → St w0.heap.size w0 w (Row2 v0 s • R) → RC w0 A c.f5 → c.f5.length ≤ cap → okD (d + 1) c → sizeC c ≤ 1000 → s.length + 2 * sizeC c ≤ 5000 →
  Calls Try.prog 50 #[v0, .agg #[.int .i64 c.f0, .int .i64 c.f1, .int .i64 c.f2, .bool c.f3, .bool c.f4, .slice A c.f5.length cap], .int .i64 deep] w (EndsPost w0 R (s ++ endsL d c))

set_option maxHeartbeats 8000000 in
theorem rends_step (d : Nat) (hd40 : d ≤ 40) (IH : ∀ d', d = d' + 1 → RendsAt d') : RendsAt d := by
  intro w0 w R c A cap v0 s deep hdeep h hl hcap hok hsz hsl
  obtain ⟨_, Av, cv, rfl, hcv, hcmv, -⟩ := id h.reads
  have hss := sizeC_eq c
  have hll := sizeL_length c.f5
  have hown := ownE_length c
  obtain ⟨op, lo, hi, low, high, l⟩ := c
  dsimp only at *
  have HL := Lib.hid (And.intro hl hok)
  obtain ⟨⟨o1, o2, o3, o4⟩, -⟩ := id hok
  simp only [minI, maxI] at o1 o2 o3 o4
  have H := Lib.hid (h.alloc (.cells #[.int .i64 op, .int .i64 lo, .int .i64 hi, .bool low, .bool high, .slice A l.length cap] 36)).two
  clear h hl hok hcmv hcv
  have hsl2 : s.length ≤ 4998 := by omega
  by_cases hop : op = 1
  · subst hop
    cases low with
    | true =>
      cases high with
      | true =>
        have HOW : Hid (ownE (⟨1, lo, hi, true, true, l⟩ : Con) = ([] ++ [] : List Rg)) := Lib.hid (by unfold ownE; simp)
        go_enter Try.func50, Try.ntmps50
        have b0 := H.out.two.cell 0 rfl
        have b1 := H.out.two.cell 1 rfl
        have b2 := H.out.two.cell 2 rfl
        have b3 := H.out.two.cell 3 rfl
        have b4 := H.out.two.cell 4 rfl
        have b5 := H.out.two.cell 5 rfl
        go_wp2
        have HS : Hid (St w0.heap.size w0 _ (Row2 _ (s ++ ([] ++ [] : List Rg)) • Blk w.heap.size _ • R)) := Lib.hid (by simpa using H.out)
        clear b0 b1 b2 b3 b4 b5
        go_loopw [0, 7] (fun v i wr => ∃ k : Nat, k ≤ l.length ∧ i = .int .i64 k ∧ Hid (St w0.heap.size w0 wr (Row2 v (s ++ (([] ++ [] : List Rg) ++ kidsE d (⟨1, lo, hi, true, true, l⟩ : Con) k)) • Blk w.heap.size (.cells #[.int .i64 1, .int .i64 lo, .int .i64 hi, .bool true, .bool true, .slice A l.length cap] 36) • R))) (fun _ i _ => l.length - (intOf i).toNat)
        case atStart =>
          refine ⟨0, Nat.zero_le _, rfl, Lib.hid ?_⟩
          have e : kidsE d (⟨1, lo, hi, true, true, l⟩ : Con) 0 = [] := by cases d <;> rfl
          rw [e, List.append_nil]
          exact HS.out
        case round =>
          clear HS
          obtain ⟨k, hk, rfl, HS⟩ := hrel
          have c5 := HS.out.two.cell 5 rfl
          by_cases hdd : deep < 41
          · have bd : decide (deep < 41) = true := decide_eq_true hdd
            by_cases hlt : k < l.length
            · obtain ⟨x, hx⟩ : ∃ x, l[k]? = some x := ⟨_, List.getElem?_eq_getElem hlt⟩
              obtain ⟨gb, off, A5, cap5, rfl, q0, q1, q2, q3, q4, q5, hc5, hr5⟩ := HL.out.1.at hx
              have d0 := cell_of_below HS.out.below q0
              have d1 := cell_of_below HS.out.below q1
              have d2 := cell_of_below HS.out.below q2
              have d3 := cell_of_below HS.out.below q3
              have d4 := cell_of_below HS.out.below q4
              have d5 := cell_of_below HS.out.below q5
              have hm := sizeL_mem (List.mem_of_getElem? hx)
              obtain ⟨d', hd'⟩ : ∃ d', d = d' + 1 := ⟨d - 1, by omega⟩
              have hkk := kids_length d (⟨1, lo, hi, true, true, l⟩ : Con) k
              have htk := sizeL_take_add l k x hx
              have hle := sizeL_take l (k + 1)
              dsimp only at hkk
              have hlen : (s ++ (([] ++ [] : List Rg) ++ kidsE d (⟨1, lo, hi, true, true, l⟩ : Con) k)).length + 2 * sizeC x ≤ s.length + 2 + 2 * sizeL l := by
                rw [List.length_append, List.length_append, ← HOW.out]
                omega
              have HX := Lib.hid (And.intro hx (And.intro hc5 (And.intro hr5 (And.intro hd' (And.intro (HL.out.2.2 x (List.mem_of_getElem? hx)) hlen)))))
              clear hx hc5 hr5 q0 q1 q2 q3 q4 q5 hd' hkk hlen htk hle
              go_wp2_with fail
              refine (IH d' HX.out.2.2.2.1 w0 _ _ x A5 cap5 _ _ (deep + 1) (by have := HX.out.2.2.2.1; omega) HS.out HX.out.2.2.1 HX.out.2.1 (by have h := HX.out.2.2.2.2.1; rw [HX.out.2.2.2.1] at h; exact h) (by omega) (by have := HX.out.2.2.2.2.2; omega)).mono ?_
              rintro e w9 ⟨v9, rfl, h9⟩
              have HN : Hid (St w0.heap.size w0 w9 (Row2 v9 (s ++ (([] ++ [] : List Rg) ++ kidsE d (⟨1, lo, hi, true, true, l⟩ : Con) (k + 1))) • Blk w.heap.size (.cells #[.int .i64 1, .int .i64 lo, .int .i64 hi, .bool true, .bool true, .slice (some ⟨gb, off, none⟩) l.length cap] 36) • R)) := Lib.hid (by
                have e : kidsE d (⟨1, lo, hi, true, true, l⟩ : Con) (k + 1) = kidsE d (⟨1, lo, hi, true, true, l⟩ : Con) k ++ endsL d' x := by
                  rw [HX.out.2.2.2.1]
                  show (l.take (k + 1)).flatMap _ = (l.take k).flatMap _ ++ _
                  rw [List.take_add_one, HX.out.1, List.flatMap_append]
                  simp
                rw [e, ← List.append_assoc, ← List.append_assoc]
                have h8 := h9
                rw [← List.append_assoc] at h8
                exact h8)
              clear h9 d0 d1 d2 d3 d4 d5 c5
              go_wp2
              exact ⟨⟨k + 1, by omega, by go_num, HN⟩, by simp only [intOf]; omega⟩
            · have hk2 : k = l.length := by omega
              have HE : Hid (s ++ (([] ++ [] : List Rg) ++ kidsE d (⟨1, lo, hi, true, true, l⟩ : Con) k) = s ++ endsL d (⟨1, lo, hi, true, true, l⟩ : Con)) := Lib.hid (by rw [ends_own d (⟨1, lo, hi, true, true, l⟩ : Con) k (.inr hk2), HOW.out])
              clear hk2
              go_wp2
              go_ret
              refine ⟨_, rfl, ?_⟩
              rw [← HE.out]
              exact HS.out.drop2
          · have bd : decide (deep < 41) = false := decide_eq_false hdd
            have hd0 : d = 0 := by omega
            have HE : Hid (s ++ (([] ++ [] : List Rg) ++ kidsE d (⟨1, lo, hi, true, true, l⟩ : Con) k) = s ++ endsL d (⟨1, lo, hi, true, true, l⟩ : Con)) := Lib.hid (by rw [ends_own d (⟨1, lo, hi, true, true, l⟩ : Con) k (.inl hd0), HOW.out])
            clear hd0
            by_cases hlt : k < l.length
            all_goals
              go_wp2
              go_ret
              refine ⟨_, rfl, ?_⟩
              rw [← HE.out]
              exact HS.out.drop2
      | false =>
        by_cases hhi : hi < 9223372036854775807
        · have bh : decide (hi < 9223372036854775807) = true := decide_eq_true hhi
          have HOW : Hid (ownE (⟨1, lo, hi, true, false, l⟩ : Con) = ([] ++ [(hi + 1, hi + 1)] : List Rg)) := Lib.hid (by unfold ownE; simp [maxI, hhi])
          go_enter Try.func50, Try.ntmps50
          have b0 := H.out.two.cell 0 rfl
          have b1 := H.out.two.cell 1 rfl
          have b2 := H.out.two.cell 2 rfl
          have b3 := H.out.two.cell 3 rfl
          have b4 := H.out.two.cell 4 rfl
          have b5 := H.out.two.cell 5 rfl
          go_wp2_with (at_builtin; refine Held.out ?_)
          refine ⟨?_⟩
          refine append2 rfl _ _ rfl _ _ (s) [(hi + 1, hi + 1)] rfl (H.out.alloc _).two rfl (blkReadsN (n := 1) (c := 1) (alloc_at (n := w.heap.size + 1) H.out _ (by simp)) rfl (by decide) (by decide) rfl) (by simp; omega) ?_
          intro v2 w2 h5
          have H2 := Lib.hid h5.drop2
          clear h5
          go_wp2
          have HS : Hid (St w0.heap.size w0 _ (Row2 _ (s ++ ([] ++ [(hi + 1, hi + 1)] : List Rg)) • Blk w.heap.size _ • R)) := Lib.hid (by simpa using H2.out)
          clear b0 b1 b2 b3 b4 b5
          go_loopw [0, 7] (fun v i wr => ∃ k : Nat, k ≤ l.length ∧ i = .int .i64 k ∧ Hid (St w0.heap.size w0 wr (Row2 v (s ++ (([] ++ [(hi + 1, hi + 1)] : List Rg) ++ kidsE d (⟨1, lo, hi, true, false, l⟩ : Con) k)) • Blk w.heap.size (.cells #[.int .i64 1, .int .i64 lo, .int .i64 hi, .bool true, .bool false, .slice A l.length cap] 36) • R))) (fun _ i _ => l.length - (intOf i).toNat)
          case atStart =>
            refine ⟨0, Nat.zero_le _, rfl, Lib.hid ?_⟩
            have e : kidsE d (⟨1, lo, hi, true, false, l⟩ : Con) 0 = [] := by cases d <;> rfl
            rw [e, List.append_nil]
            exact HS.out
          case round =>
            clear HS
            obtain ⟨k, hk, rfl, HS⟩ := hrel
            have c5 := HS.out.two.cell 5 rfl
            by_cases hdd : deep < 41
            · have bd : decide (deep < 41) = true := decide_eq_true hdd
              by_cases hlt : k < l.length
              · obtain ⟨x, hx⟩ : ∃ x, l[k]? = some x := ⟨_, List.getElem?_eq_getElem hlt⟩
                obtain ⟨gb, off, A5, cap5, rfl, q0, q1, q2, q3, q4, q5, hc5, hr5⟩ := HL.out.1.at hx
                have d0 := cell_of_below HS.out.below q0
                have d1 := cell_of_below HS.out.below q1
                have d2 := cell_of_below HS.out.below q2
                have d3 := cell_of_below HS.out.below q3
                have d4 := cell_of_below HS.out.below q4
                have d5 := cell_of_below HS.out.below q5
                have hm := sizeL_mem (List.mem_of_getElem? hx)
                obtain ⟨d', hd'⟩ : ∃ d', d = d' + 1 := ⟨d - 1, by omega⟩
                have hkk := kids_length d (⟨1, lo, hi, true, false, l⟩ : Con) k
                have htk := sizeL_take_add l k x hx
                have hle := sizeL_take l (k + 1)
                dsimp only at hkk
                have hlen : (s ++ (([] ++ [(hi + 1, hi + 1)] : List Rg) ++ kidsE d (⟨1, lo, hi, true, false, l⟩ : Con) k)).length + 2 * sizeC x ≤ s.length + 2 + 2 * sizeL l := by
                  rw [List.length_append, List.length_append, ← HOW.out]
                  omega
                have HX := Lib.hid (And.intro hx (And.intro hc5 (And.intro hr5 (And.intro hd' (And.intro (HL.out.2.2 x (List.mem_of_getElem? hx)) hlen)))))
                clear hx hc5 hr5 q0 q1 q2 q3 q4 q5 hd' hkk hlen htk hle
                go_wp2_with fail
                refine (IH d' HX.out.2.2.2.1 w0 _ _ x A5 cap5 _ _ (deep + 1) (by have := HX.out.2.2.2.1; omega) HS.out HX.out.2.2.1 HX.out.2.1 (by have h := HX.out.2.2.2.2.1; rw [HX.out.2.2.2.1] at h; exact h) (by omega) (by have := HX.out.2.2.2.2.2; omega)).mono ?_
                rintro e w9 ⟨v9, rfl, h9⟩
                have HN : Hid (St w0.heap.size w0 w9 (Row2 v9 (s ++ (([] ++ [(hi + 1, hi + 1)] : List Rg) ++ kidsE d (⟨1, lo, hi, true, false, l⟩ : Con) (k + 1))) • Blk w.heap.size (.cells #[.int .i64 1, .int .i64 lo, .int .i64 hi, .bool true, .bool false, .slice (some ⟨gb, off, none⟩) l.length cap] 36) • R)) := Lib.hid (by
                  have e : kidsE d (⟨1, lo, hi, true, false, l⟩ : Con) (k + 1) = kidsE d (⟨1, lo, hi, true, false, l⟩ : Con) k ++ endsL d' x := by
                    rw [HX.out.2.2.2.1]
                    show (l.take (k + 1)).flatMap _ = (l.take k).flatMap _ ++ _
                    rw [List.take_add_one, HX.out.1, List.flatMap_append]
                    simp
                  rw [e, ← List.append_assoc, ← List.append_assoc]
                  have h8 := h9
                  rw [← List.append_assoc] at h8
                  exact h8)
                clear h9 d0 d1 d2 d3 d4 d5 c5
                go_wp2
                exact ⟨⟨k + 1, by omega, by go_num, HN⟩, by simp only [intOf]; omega⟩
              · have hk2 : k = l.length := by omega
                have HE : Hid (s ++ (([] ++ [(hi + 1, hi + 1)] : List Rg) ++ kidsE d (⟨1, lo, hi, true, false, l⟩ : Con) k) = s ++ endsL d (⟨1, lo, hi, true, false, l⟩ : Con)) := Lib.hid (by rw [ends_own d (⟨1, lo, hi, true, false, l⟩ : Con) k (.inr hk2), HOW.out])
                clear hk2
                go_wp2
                go_ret
                refine ⟨_, rfl, ?_⟩
                rw [← HE.out]
                exact HS.out.drop2
            · have bd : decide (deep < 41) = false := decide_eq_false hdd
              have hd0 : d = 0 := by omega
              have HE : Hid (s ++ (([] ++ [(hi + 1, hi + 1)] : List Rg) ++ kidsE d (⟨1, lo, hi, true, false, l⟩ : Con) k) = s ++ endsL d (⟨1, lo, hi, true, false, l⟩ : Con)) := Lib.hid (by rw [ends_own d (⟨1, lo, hi, true, false, l⟩ : Con) k (.inl hd0), HOW.out])
              clear hd0
              by_cases hlt : k < l.length
              all_goals
                go_wp2
                go_ret
                refine ⟨_, rfl, ?_⟩
                rw [← HE.out]
                exact HS.out.drop2
        · have bh : decide (hi < 9223372036854775807) = false := decide_eq_false hhi
          have HOW : Hid (ownE (⟨1, lo, hi, true, false, l⟩ : Con) = ([] ++ [] : List Rg)) := Lib.hid (by unfold ownE; simp [maxI, hhi])
          go_enter Try.func50, Try.ntmps50
          have b0 := H.out.two.cell 0 rfl
          have b1 := H.out.two.cell 1 rfl
          have b2 := H.out.two.cell 2 rfl
          have b3 := H.out.two.cell 3 rfl
          have b4 := H.out.two.cell 4 rfl
          have b5 := H.out.two.cell 5 rfl
          go_wp2
          have HS : Hid (St w0.heap.size w0 _ (Row2 _ (s ++ ([] ++ [] : List Rg)) • Blk w.heap.size _ • R)) := Lib.hid (by simpa using H.out)
          clear b0 b1 b2 b3 b4 b5
          go_loopw [0, 7] (fun v i wr => ∃ k : Nat, k ≤ l.length ∧ i = .int .i64 k ∧ Hid (St w0.heap.size w0 wr (Row2 v (s ++ (([] ++ [] : List Rg) ++ kidsE d (⟨1, lo, hi, true, false, l⟩ : Con) k)) • Blk w.heap.size (.cells #[.int .i64 1, .int .i64 lo, .int .i64 hi, .bool true, .bool false, .slice A l.length cap] 36) • R))) (fun _ i _ => l.length - (intOf i).toNat)
          case atStart =>
            refine ⟨0, Nat.zero_le _, rfl, Lib.hid ?_⟩
            have e : kidsE d (⟨1, lo, hi, true, false, l⟩ : Con) 0 = [] := by cases d <;> rfl
            rw [e, List.append_nil]
            exact HS.out
          case round =>
            clear HS
            obtain ⟨k, hk, rfl, HS⟩ := hrel
            have c5 := HS.out.two.cell 5 rfl
            by_cases hdd : deep < 41
            · have bd : decide (deep < 41) = true := decide_eq_true hdd
              by_cases hlt : k < l.length
              · obtain ⟨x, hx⟩ : ∃ x, l[k]? = some x := ⟨_, List.getElem?_eq_getElem hlt⟩
                obtain ⟨gb, off, A5, cap5, rfl, q0, q1, q2, q3, q4, q5, hc5, hr5⟩ := HL.out.1.at hx
                have d0 := cell_of_below HS.out.below q0
                have d1 := cell_of_below HS.out.below q1
                have d2 := cell_of_below HS.out.below q2
                have d3 := cell_of_below HS.out.below q3
                have d4 := cell_of_below HS.out.below q4
                have d5 := cell_of_below HS.out.below q5
                have hm := sizeL_mem (List.mem_of_getElem? hx)
                obtain ⟨d', hd'⟩ : ∃ d', d = d' + 1 := ⟨d - 1, by omega⟩
                have hkk := kids_length d (⟨1, lo, hi, true, false, l⟩ : Con) k
                have htk := sizeL_take_add l k x hx
                have hle := sizeL_take l (k + 1)
                dsimp only at hkk
                have hlen : (s ++ (([] ++ [] : List Rg) ++ kidsE d (⟨1, lo, hi, true, false, l⟩ : Con) k)).length + 2 * sizeC x ≤ s.length + 2 + 2 * sizeL l := by
                  rw [List.length_append, List.length_append, ← HOW.out]
                  omega
                have HX := Lib.hid (And.intro hx (And.intro hc5 (And.intro hr5 (And.intro hd' (And.intro (HL.out.2.2 x (List.mem_of_getElem? hx)) hlen)))))
                clear hx hc5 hr5 q0 q1 q2 q3 q4 q5 hd' hkk hlen htk hle
                go_wp2_with fail
                refine (IH d' HX.out.2.2.2.1 w0 _ _ x A5 cap5 _ _ (deep + 1) (by have := HX.out.2.2.2.1; omega) HS.out HX.out.2.2.1 HX.out.2.1 (by have h := HX.out.2.2.2.2.1; rw [HX.out.2.2.2.1] at h; exact h) (by omega) (by have := HX.out.2.2.2.2.2; omega)).mono ?_
                rintro e w9 ⟨v9, rfl, h9⟩
                have HN : Hid (St w0.heap.size w0 w9 (Row2 v9 (s ++ (([] ++ [] : List Rg) ++ kidsE d (⟨1, lo, hi, true, false, l⟩ : Con) (k + 1))) • Blk w.heap.size (.cells #[.int .i64 1, .int .i64 lo, .int .i64 hi, .bool true, .bool false, .slice (some ⟨gb, off, none⟩) l.length cap] 36) • R)) := Lib.hid (by
                  have e : kidsE d (⟨1, lo, hi, true, false, l⟩ : Con) (k + 1) = kidsE d (⟨1, lo, hi, true, false, l⟩ : Con) k ++ endsL d' x := by
                    rw [HX.out.2.2.2.1]
                    show (l.take (k + 1)).flatMap _ = (l.take k).flatMap _ ++ _
                    rw [List.take_add_one, HX.out.1, List.flatMap_append]
                    simp
                  rw [e, ← List.append_assoc, ← List.append_assoc]
                  have h8 := h9
                  rw [← List.append_assoc] at h8
                  exact h8)
                clear h9 d0 d1 d2 d3 d4 d5 c5
                go_wp2
                exact ⟨⟨k + 1, by omega, by go_num, HN⟩, by simp only [intOf]; omega⟩
              · have hk2 : k = l.length := by omega
                have HE : Hid (s ++ (([] ++ [] : List Rg) ++ kidsE d (⟨1, lo, hi, true, false, l⟩ : Con) k) = s ++ endsL d (⟨1, lo, hi, true, false, l⟩ : Con)) := Lib.hid (by rw [ends_own d (⟨1, lo, hi, true, false, l⟩ : Con) k (.inr hk2), HOW.out])
                clear hk2
                go_wp2
                go_ret
                refine ⟨_, rfl, ?_⟩
                rw [← HE.out]
                exact HS.out.drop2
            · have bd : decide (deep < 41) = false := decide_eq_false hdd
              have hd0 : d = 0 := by omega
              have HE : Hid (s ++ (([] ++ [] : List Rg) ++ kidsE d (⟨1, lo, hi, true, false, l⟩ : Con) k) = s ++ endsL d (⟨1, lo, hi, true, false, l⟩ : Con)) := Lib.hid (by rw [ends_own d (⟨1, lo, hi, true, false, l⟩ : Con) k (.inl hd0), HOW.out])
              clear hd0
              by_cases hlt : k < l.length
              all_goals
                go_wp2
                go_ret
                refine ⟨_, rfl, ?_⟩
                rw [← HE.out]
                exact HS.out.drop2
    | false =>
      cases high with
      | true =>
        have HOW : Hid (ownE (⟨1, lo, hi, false, true, l⟩ : Con) = ([(lo, lo)] ++ [] : List Rg)) := Lib.hid (by unfold ownE; simp)
        go_enter Try.func50, Try.ntmps50
        have b0 := H.out.two.cell 0 rfl
        have b1 := H.out.two.cell 1 rfl
        have b2 := H.out.two.cell 2 rfl
        have b3 := H.out.two.cell 3 rfl
        have b4 := H.out.two.cell 4 rfl
        have b5 := H.out.two.cell 5 rfl
        go_wp2_with (at_builtin; refine Held.out ?_)
        refine ⟨?_⟩
        refine append2 rfl _ _ rfl _ _ (s) [(lo, lo)] rfl (H.out.alloc _).two rfl (blkReadsN (n := 1) (c := 1) (alloc_at (n := w.heap.size + 1) H.out _ (by simp)) rfl (by decide) (by decide) rfl) (by simp; omega) ?_
        intro v1 w1 h5
        have H1 := Lib.hid h5.drop2
        clear h5
        clear b0 b1 b2 b3 b4 b5
        have b0 := H1.out.two.cell 0 rfl
        have b1 := H1.out.two.cell 1 rfl
        have b2 := H1.out.two.cell 2 rfl
        have b3 := H1.out.two.cell 3 rfl
        have b4 := H1.out.two.cell 4 rfl
        have b5 := H1.out.two.cell 5 rfl
        go_wp2
        have HS : Hid (St w0.heap.size w0 _ (Row2 _ (s ++ ([(lo, lo)] ++ [] : List Rg)) • Blk w.heap.size _ • R)) := Lib.hid (by simpa using H1.out)
        clear b0 b1 b2 b3 b4 b5
        go_loopw [0, 7] (fun v i wr => ∃ k : Nat, k ≤ l.length ∧ i = .int .i64 k ∧ Hid (St w0.heap.size w0 wr (Row2 v (s ++ (([(lo, lo)] ++ [] : List Rg) ++ kidsE d (⟨1, lo, hi, false, true, l⟩ : Con) k)) • Blk w.heap.size (.cells #[.int .i64 1, .int .i64 lo, .int .i64 hi, .bool false, .bool true, .slice A l.length cap] 36) • R))) (fun _ i _ => l.length - (intOf i).toNat)
        case atStart =>
          refine ⟨0, Nat.zero_le _, rfl, Lib.hid ?_⟩
          have e : kidsE d (⟨1, lo, hi, false, true, l⟩ : Con) 0 = [] := by cases d <;> rfl
          rw [e, List.append_nil]
          exact HS.out
        case round =>
          clear HS
          obtain ⟨k, hk, rfl, HS⟩ := hrel
          have c5 := HS.out.two.cell 5 rfl
          by_cases hdd : deep < 41
          · have bd : decide (deep < 41) = true := decide_eq_true hdd
            by_cases hlt : k < l.length
            · obtain ⟨x, hx⟩ : ∃ x, l[k]? = some x := ⟨_, List.getElem?_eq_getElem hlt⟩
              obtain ⟨gb, off, A5, cap5, rfl, q0, q1, q2, q3, q4, q5, hc5, hr5⟩ := HL.out.1.at hx
              have d0 := cell_of_below HS.out.below q0
              have d1 := cell_of_below HS.out.below q1
              have d2 := cell_of_below HS.out.below q2
              have d3 := cell_of_below HS.out.below q3
              have d4 := cell_of_below HS.out.below q4
              have d5 := cell_of_below HS.out.below q5
              have hm := sizeL_mem (List.mem_of_getElem? hx)
              obtain ⟨d', hd'⟩ : ∃ d', d = d' + 1 := ⟨d - 1, by omega⟩
              have hkk := kids_length d (⟨1, lo, hi, false, true, l⟩ : Con) k
              have htk := sizeL_take_add l k x hx
              have hle := sizeL_take l (k + 1)
              dsimp only at hkk
              have hlen : (s ++ (([(lo, lo)] ++ [] : List Rg) ++ kidsE d (⟨1, lo, hi, false, true, l⟩ : Con) k)).length + 2 * sizeC x ≤ s.length + 2 + 2 * sizeL l := by
                rw [List.length_append, List.length_append, ← HOW.out]
                omega
              have HX := Lib.hid (And.intro hx (And.intro hc5 (And.intro hr5 (And.intro hd' (And.intro (HL.out.2.2 x (List.mem_of_getElem? hx)) hlen)))))
              clear hx hc5 hr5 q0 q1 q2 q3 q4 q5 hd' hkk hlen htk hle
              go_wp2_with fail
              refine (IH d' HX.out.2.2.2.1 w0 _ _ x A5 cap5 _ _ (deep + 1) (by have := HX.out.2.2.2.1; omega) HS.out HX.out.2.2.1 HX.out.2.1 (by have h := HX.out.2.2.2.2.1; rw [HX.out.2.2.2.1] at h; exact h) (by omega) (by have := HX.out.2.2.2.2.2; omega)).mono ?_
              rintro e w9 ⟨v9, rfl, h9⟩
              have HN : Hid (St w0.heap.size w0 w9 (Row2 v9 (s ++ (([(lo, lo)] ++ [] : List Rg) ++ kidsE d (⟨1, lo, hi, false, true, l⟩ : Con) (k + 1))) • Blk w.heap.size (.cells #[.int .i64 1, .int .i64 lo, .int .i64 hi, .bool false, .bool true, .slice (some ⟨gb, off, none⟩) l.length cap] 36) • R)) := Lib.hid (by
                have e : kidsE d (⟨1, lo, hi, false, true, l⟩ : Con) (k + 1) = kidsE d (⟨1, lo, hi, false, true, l⟩ : Con) k ++ endsL d' x := by
                  rw [HX.out.2.2.2.1]
                  show (l.take (k + 1)).flatMap _ = (l.take k).flatMap _ ++ _
                  rw [List.take_add_one, HX.out.1, List.flatMap_append]
                  simp
                rw [e, ← List.append_assoc, ← List.append_assoc]
                have h8 := h9
                rw [← List.append_assoc] at h8
                exact h8)
              clear h9 d0 d1 d2 d3 d4 d5 c5
              go_wp2
              exact ⟨⟨k + 1, by omega, by go_num, HN⟩, by simp only [intOf]; omega⟩
            · have hk2 : k = l.length := by omega
              have HE : Hid (s ++ (([(lo, lo)] ++ [] : List Rg) ++ kidsE d (⟨1, lo, hi, false, true, l⟩ : Con) k) = s ++ endsL d (⟨1, lo, hi, false, true, l⟩ : Con)) := Lib.hid (by rw [ends_own d (⟨1, lo, hi, false, true, l⟩ : Con) k (.inr hk2), HOW.out])
              clear hk2
              go_wp2
              go_ret
              refine ⟨_, rfl, ?_⟩
              rw [← HE.out]
              exact HS.out.drop2
          · have bd : decide (deep < 41) = false := decide_eq_false hdd
            have hd0 : d = 0 := by omega
            have HE : Hid (s ++ (([(lo, lo)] ++ [] : List Rg) ++ kidsE d (⟨1, lo, hi, false, true, l⟩ : Con) k) = s ++ endsL d (⟨1, lo, hi, false, true, l⟩ : Con)) := Lib.hid (by rw [ends_own d (⟨1, lo, hi, false, true, l⟩ : Con) k (.inl hd0), HOW.out])
            clear hd0
            by_cases hlt : k < l.length
            all_goals
              go_wp2
              go_ret
              refine ⟨_, rfl, ?_⟩
              rw [← HE.out]
              exact HS.out.drop2
      | false =>
        by_cases hhi : hi < 9223372036854775807
        · have bh : decide (hi < 9223372036854775807) = true := decide_eq_true hhi
          have HOW : Hid (ownE (⟨1, lo, hi, false, false, l⟩ : Con) = ([(lo, lo)] ++ [(hi + 1, hi + 1)] : List Rg)) := Lib.hid (by unfold ownE; simp [maxI, hhi])
          go_enter Try.func50, Try.ntmps50
          have b0 := H.out.two.cell 0 rfl
          have b1 := H.out.two.cell 1 rfl
          have b2 := H.out.two.cell 2 rfl
          have b3 := H.out.two.cell 3 rfl
          have b4 := H.out.two.cell 4 rfl
          have b5 := H.out.two.cell 5 rfl
          go_wp2_with (at_builtin; refine Held.out ?_)
          refine ⟨?_⟩
          refine append2 rfl _ _ rfl _ _ (s) [(lo, lo)] rfl (H.out.alloc _).two rfl (blkReadsN (n := 1) (c := 1) (alloc_at (n := w.heap.size + 1) H.out _ (by simp)) rfl (by decide) (by decide) rfl) (by simp; omega) ?_
          intro v1 w1 h5
          have H1 := Lib.hid h5.drop2
          clear h5
          clear b0 b1 b2 b3 b4 b5
          have b0 := H1.out.two.cell 0 rfl
          have b1 := H1.out.two.cell 1 rfl
          have b2 := H1.out.two.cell 2 rfl
          have b3 := H1.out.two.cell 3 rfl
          have b4 := H1.out.two.cell 4 rfl
          have b5 := H1.out.two.cell 5 rfl
          go_wp2_with (at_builtin; refine Held.out ?_)
          refine ⟨?_⟩
          refine append2 rfl _ _ rfl _ _ (s ++ [(lo, lo)]) [(hi + 1, hi + 1)] rfl (H1.out.alloc _).two rfl (blkReadsN (n := 1) (c := 1) (alloc_at (n := w1.heap.size) H1.out _ (by simp)) rfl (by decide) (by decide) rfl) (by simp; omega) ?_
          intro v2 w2 h5
          have H2 := Lib.hid h5.drop2
          clear h5
          go_wp2
          have HS : Hid (St w0.heap.size w0 _ (Row2 _ (s ++ ([(lo, lo)] ++ [(hi + 1, hi + 1)] : List Rg)) • Blk w.heap.size _ • R)) := Lib.hid (by simpa using H2.out)
          clear b0 b1 b2 b3 b4 b5
          go_loopw [0, 7] (fun v i wr => ∃ k : Nat, k ≤ l.length ∧ i = .int .i64 k ∧ Hid (St w0.heap.size w0 wr (Row2 v (s ++ (([(lo, lo)] ++ [(hi + 1, hi + 1)] : List Rg) ++ kidsE d (⟨1, lo, hi, false, false, l⟩ : Con) k)) • Blk w.heap.size (.cells #[.int .i64 1, .int .i64 lo, .int .i64 hi, .bool false, .bool false, .slice A l.length cap] 36) • R))) (fun _ i _ => l.length - (intOf i).toNat)
          case atStart =>
            refine ⟨0, Nat.zero_le _, rfl, Lib.hid ?_⟩
            have e : kidsE d (⟨1, lo, hi, false, false, l⟩ : Con) 0 = [] := by cases d <;> rfl
            rw [e, List.append_nil]
            exact HS.out
          case round =>
            clear HS
            obtain ⟨k, hk, rfl, HS⟩ := hrel
            have c5 := HS.out.two.cell 5 rfl
            by_cases hdd : deep < 41
            · have bd : decide (deep < 41) = true := decide_eq_true hdd
              by_cases hlt : k < l.length
              · obtain ⟨x, hx⟩ : ∃ x, l[k]? = some x := ⟨_, List.getElem?_eq_getElem hlt⟩
                obtain ⟨gb, off, A5, cap5, rfl, q0, q1, q2, q3, q4, q5, hc5, hr5⟩ := HL.out.1.at hx
                have d0 := cell_of_below HS.out.below q0
                have d1 := cell_of_below HS.out.below q1
                have d2 := cell_of_below HS.out.below q2
                have d3 := cell_of_below HS.out.below q3
                have d4 := cell_of_below HS.out.below q4
                have d5 := cell_of_below HS.out.below q5
                have hm := sizeL_mem (List.mem_of_getElem? hx)
                obtain ⟨d', hd'⟩ : ∃ d', d = d' + 1 := ⟨d - 1, by omega⟩
                have hkk := kids_length d (⟨1, lo, hi, false, false, l⟩ : Con) k
                have htk := sizeL_take_add l k x hx
                have hle := sizeL_take l (k + 1)
                dsimp only at hkk
                have hlen : (s ++ (([(lo, lo)] ++ [(hi + 1, hi + 1)] : List Rg) ++ kidsE d (⟨1, lo, hi, false, false, l⟩ : Con) k)).length + 2 * sizeC x ≤ s.length + 2 + 2 * sizeL l := by
                  rw [List.length_append, List.length_append, ← HOW.out]
                  omega
                have HX := Lib.hid (And.intro hx (And.intro hc5 (And.intro hr5 (And.intro hd' (And.intro (HL.out.2.2 x (List.mem_of_getElem? hx)) hlen)))))
                clear hx hc5 hr5 q0 q1 q2 q3 q4 q5 hd' hkk hlen htk hle
                go_wp2_with fail
                refine (IH d' HX.out.2.2.2.1 w0 _ _ x A5 cap5 _ _ (deep + 1) (by have := HX.out.2.2.2.1; omega) HS.out HX.out.2.2.1 HX.out.2.1 (by have h := HX.out.2.2.2.2.1; rw [HX.out.2.2.2.1] at h; exact h) (by omega) (by have := HX.out.2.2.2.2.2; omega)).mono ?_
                rintro e w9 ⟨v9, rfl, h9⟩
                have HN : Hid (St w0.heap.size w0 w9 (Row2 v9 (s ++ (([(lo, lo)] ++ [(hi + 1, hi + 1)] : List Rg) ++ kidsE d (⟨1, lo, hi, false, false, l⟩ : Con) (k + 1))) • Blk w.heap.size (.cells #[.int .i64 1, .int .i64 lo, .int .i64 hi, .bool false, .bool false, .slice (some ⟨gb, off, none⟩) l.length cap] 36) • R)) := Lib.hid (by
                  have e : kidsE d (⟨1, lo, hi, false, false, l⟩ : Con) (k + 1) = kidsE d (⟨1, lo, hi, false, false, l⟩ : Con) k ++ endsL d' x := by
                    rw [HX.out.2.2.2.1]
                    show (l.take (k + 1)).flatMap _ = (l.take k).flatMap _ ++ _
                    rw [List.take_add_one, HX.out.1, List.flatMap_append]
                    simp
                  rw [e, ← List.append_assoc, ← List.append_assoc]
                  have h8 := h9
                  rw [← List.append_assoc] at h8
                  exact h8)
                clear h9 d0 d1 d2 d3 d4 d5 c5
                go_wp2
                exact ⟨⟨k + 1, by omega, by go_num, HN⟩, by simp only [intOf]; omega⟩
              · have hk2 : k = l.length := by omega
                have HE : Hid (s ++ (([(lo, lo)] ++ [(hi + 1, hi + 1)] : List Rg) ++ kidsE d (⟨1, lo, hi, false, false, l⟩ : Con) k) = s ++ endsL d (⟨1, lo, hi, false, false, l⟩ : Con)) := Lib.hid (by rw [ends_own d (⟨1, lo, hi, false, false, l⟩ : Con) k (.inr hk2), HOW.out])
                clear hk2
                go_wp2
                go_ret
                refine ⟨_, rfl, ?_⟩
                rw [← HE.out]
                exact HS.out.drop2
            · have bd : decide (deep < 41) = false := decide_eq_false hdd
              have hd0 : d = 0 := by omega
              have HE : Hid (s ++ (([(lo, lo)] ++ [(hi + 1, hi + 1)] : List Rg) ++ kidsE d (⟨1, lo, hi, false, false, l⟩ : Con) k) = s ++ endsL d (⟨1, lo, hi, false, false, l⟩ : Con)) := Lib.hid (by rw [ends_own d (⟨1, lo, hi, false, false, l⟩ : Con) k (.inl hd0), HOW.out])
              clear hd0
              by_cases hlt : k < l.length
              all_goals
                go_wp2
                go_ret
                refine ⟨_, rfl, ?_⟩
                rw [← HE.out]
                exact HS.out.drop2
        · have bh : decide (hi < 9223372036854775807) = false := decide_eq_false hhi
          have HOW : Hid (ownE (⟨1, lo, hi, false, false, l⟩ : Con) = ([(lo, lo)] ++ [] : List Rg)) := Lib.hid (by unfold ownE; simp [maxI, hhi])
          go_enter Try.func50, Try.ntmps50
          have b0 := H.out.two.cell 0 rfl
          have b1 := H.out.two.cell 1 rfl
          have b2 := H.out.two.cell 2 rfl
          have b3 := H.out.two.cell 3 rfl
          have b4 := H.out.two.cell 4 rfl
          have b5 := H.out.two.cell 5 rfl
          go_wp2_with (at_builtin; refine Held.out ?_)
          refine ⟨?_⟩
          refine append2 rfl _ _ rfl _ _ (s) [(lo, lo)] rfl (H.out.alloc _).two rfl (blkReadsN (n := 1) (c := 1) (alloc_at (n := w.heap.size + 1) H.out _ (by simp)) rfl (by decide) (by decide) rfl) (by simp; omega) ?_
          intro v1 w1 h5
          have H1 := Lib.hid h5.drop2
          clear h5
          clear b0 b1 b2 b3 b4 b5
          have b0 := H1.out.two.cell 0 rfl
          have b1 := H1.out.two.cell 1 rfl
          have b2 := H1.out.two.cell 2 rfl
          have b3 := H1.out.two.cell 3 rfl
          have b4 := H1.out.two.cell 4 rfl
          have b5 := H1.out.two.cell 5 rfl
          go_wp2
          have HS : Hid (St w0.heap.size w0 _ (Row2 _ (s ++ ([(lo, lo)] ++ [] : List Rg)) • Blk w.heap.size _ • R)) := Lib.hid (by simpa using H1.out)
          clear b0 b1 b2 b3 b4 b5
          go_loopw [0, 7] (fun v i wr => ∃ k : Nat, k ≤ l.length ∧ i = .int .i64 k ∧ Hid (St w0.heap.size w0 wr (Row2 v (s ++ (([(lo, lo)] ++ [] : List Rg) ++ kidsE d (⟨1, lo, hi, false, false, l⟩ : Con) k)) • Blk w.heap.size (.cells #[.int .i64 1, .int .i64 lo, .int .i64 hi, .bool false, .bool false, .slice A l.length cap] 36) • R))) (fun _ i _ => l.length - (intOf i).toNat)
          case atStart =>
            refine ⟨0, Nat.zero_le _, rfl, Lib.hid ?_⟩
            have e : kidsE d (⟨1, lo, hi, false, false, l⟩ : Con) 0 = [] := by cases d <;> rfl
            rw [e, List.append_nil]
            exact HS.out
          case round =>
            clear HS
            obtain ⟨k, hk, rfl, HS⟩ := hrel
            have c5 := HS.out.two.cell 5 rfl
            by_cases hdd : deep < 41
            · have bd : decide (deep < 41) = true := decide_eq_true hdd
              by_cases hlt : k < l.length
              · obtain ⟨x, hx⟩ : ∃ x, l[k]? = some x := ⟨_, List.getElem?_eq_getElem hlt⟩
                obtain ⟨gb, off, A5, cap5, rfl, q0, q1, q2, q3, q4, q5, hc5, hr5⟩ := HL.out.1.at hx
                have d0 := cell_of_below HS.out.below q0
                have d1 := cell_of_below HS.out.below q1
                have d2 := cell_of_below HS.out.below q2
                have d3 := cell_of_below HS.out.below q3
                have d4 := cell_of_below HS.out.below q4
                have d5 := cell_of_below HS.out.below q5
                have hm := sizeL_mem (List.mem_of_getElem? hx)
                obtain ⟨d', hd'⟩ : ∃ d', d = d' + 1 := ⟨d - 1, by omega⟩
                have hkk := kids_length d (⟨1, lo, hi, false, false, l⟩ : Con) k
                have htk := sizeL_take_add l k x hx
                have hle := sizeL_take l (k + 1)
                dsimp only at hkk
                have hlen : (s ++ (([(lo, lo)] ++ [] : List Rg) ++ kidsE d (⟨1, lo, hi, false, false, l⟩ : Con) k)).length + 2 * sizeC x ≤ s.length + 2 + 2 * sizeL l := by
                  rw [List.length_append, List.length_append, ← HOW.out]
                  omega
                have HX := Lib.hid (And.intro hx (And.intro hc5 (And.intro hr5 (And.intro hd' (And.intro (HL.out.2.2 x (List.mem_of_getElem? hx)) hlen)))))
                clear hx hc5 hr5 q0 q1 q2 q3 q4 q5 hd' hkk hlen htk hle
                go_wp2_with fail
                refine (IH d' HX.out.2.2.2.1 w0 _ _ x A5 cap5 _ _ (deep + 1) (by have := HX.out.2.2.2.1; omega) HS.out HX.out.2.2.1 HX.out.2.1 (by have h := HX.out.2.2.2.2.1; rw [HX.out.2.2.2.1] at h; exact h) (by omega) (by have := HX.out.2.2.2.2.2; omega)).mono ?_
                rintro e w9 ⟨v9, rfl, h9⟩
                have HN : Hid (St w0.heap.size w0 w9 (Row2 v9 (s ++ (([(lo, lo)] ++ [] : List Rg) ++ kidsE d (⟨1, lo, hi, false, false, l⟩ : Con) (k + 1))) • Blk w.heap.size (.cells #[.int .i64 1, .int .i64 lo, .int .i64 hi, .bool false, .bool false, .slice (some ⟨gb, off, none⟩) l.length cap] 36) • R)) := Lib.hid (by
                  have e : kidsE d (⟨1, lo, hi, false, false, l⟩ : Con) (k + 1) = kidsE d (⟨1, lo, hi, false, false, l⟩ : Con) k ++ endsL d' x := by
                    rw [HX.out.2.2.2.1]
                    show (l.take (k + 1)).flatMap _ = (l.take k).flatMap _ ++ _
                    rw [List.take_add_one, HX.out.1, List.flatMap_append]
                    simp
                  rw [e, ← List.append_assoc, ← List.append_assoc]
                  have h8 := h9
                  rw [← List.append_assoc] at h8
                  exact h8)
                clear h9 d0 d1 d2 d3 d4 d5 c5
                go_wp2
                exact ⟨⟨k + 1, by omega, by go_num, HN⟩, by simp only [intOf]; omega⟩
              · have hk2 : k = l.length := by omega
                have HE : Hid (s ++ (([(lo, lo)] ++ [] : List Rg) ++ kidsE d (⟨1, lo, hi, false, false, l⟩ : Con) k) = s ++ endsL d (⟨1, lo, hi, false, false, l⟩ : Con)) := Lib.hid (by rw [ends_own d (⟨1, lo, hi, false, false, l⟩ : Con) k (.inr hk2), HOW.out])
                clear hk2
                go_wp2
                go_ret
                refine ⟨_, rfl, ?_⟩
                rw [← HE.out]
                exact HS.out.drop2
            · have bd : decide (deep < 41) = false := decide_eq_false hdd
              have hd0 : d = 0 := by omega
              have HE : Hid (s ++ (([(lo, lo)] ++ [] : List Rg) ++ kidsE d (⟨1, lo, hi, false, false, l⟩ : Con) k) = s ++ endsL d (⟨1, lo, hi, false, false, l⟩ : Con)) := Lib.hid (by rw [ends_own d (⟨1, lo, hi, false, false, l⟩ : Con) k (.inl hd0), HOW.out])
              clear hd0
              by_cases hlt : k < l.length
              all_goals
                go_wp2
                go_ret
                refine ⟨_, rfl, ?_⟩
                rw [← HE.out]
                exact HS.out.drop2
  · have bop : (op == 1) = false := by simpa using hop
    have HOW : Hid (ownE (⟨op, lo, hi, low, high, l⟩ : Con) = ([] ++ [] : List Rg)) := Lib.hid (by unfold ownE; simp [hop])
    clear hop
    go_enter Try.func50, Try.ntmps50
    have b0 := H.out.two.cell 0 rfl
    have b1 := H.out.two.cell 1 rfl
    have b2 := H.out.two.cell 2 rfl
    have b3 := H.out.two.cell 3 rfl
    have b4 := H.out.two.cell 4 rfl
    have b5 := H.out.two.cell 5 rfl
    go_wp2
    have HS : Hid (St w0.heap.size w0 _ (Row2 _ (s ++ ([] ++ [] : List Rg)) • Blk w.heap.size _ • R)) := Lib.hid (by simpa using H.out)
    clear b0 b1 b2 b3 b4 b5
    go_loopw [0, 7] (fun v i wr => ∃ k : Nat, k ≤ l.length ∧ i = .int .i64 k ∧ Hid (St w0.heap.size w0 wr (Row2 v (s ++ (([] ++ [] : List Rg) ++ kidsE d (⟨op, lo, hi, low, high, l⟩ : Con) k)) • Blk w.heap.size (.cells #[.int .i64 op, .int .i64 lo, .int .i64 hi, .bool low, .bool high, .slice A l.length cap] 36) • R))) (fun _ i _ => l.length - (intOf i).toNat)
    case atStart =>
      refine ⟨0, Nat.zero_le _, rfl, Lib.hid ?_⟩
      have e : kidsE d (⟨op, lo, hi, low, high, l⟩ : Con) 0 = [] := by cases d <;> rfl
      rw [e, List.append_nil]
      exact HS.out
    case round =>
      clear HS
      obtain ⟨k, hk, rfl, HS⟩ := hrel
      have c5 := HS.out.two.cell 5 rfl
      by_cases hdd : deep < 41
      · have bd : decide (deep < 41) = true := decide_eq_true hdd
        by_cases hlt : k < l.length
        · obtain ⟨x, hx⟩ : ∃ x, l[k]? = some x := ⟨_, List.getElem?_eq_getElem hlt⟩
          obtain ⟨gb, off, A5, cap5, rfl, q0, q1, q2, q3, q4, q5, hc5, hr5⟩ := HL.out.1.at hx
          have d0 := cell_of_below HS.out.below q0
          have d1 := cell_of_below HS.out.below q1
          have d2 := cell_of_below HS.out.below q2
          have d3 := cell_of_below HS.out.below q3
          have d4 := cell_of_below HS.out.below q4
          have d5 := cell_of_below HS.out.below q5
          have hm := sizeL_mem (List.mem_of_getElem? hx)
          obtain ⟨d', hd'⟩ : ∃ d', d = d' + 1 := ⟨d - 1, by omega⟩
          have hkk := kids_length d (⟨op, lo, hi, low, high, l⟩ : Con) k
          have htk := sizeL_take_add l k x hx
          have hle := sizeL_take l (k + 1)
          dsimp only at hkk
          have hlen : (s ++ (([] ++ [] : List Rg) ++ kidsE d (⟨op, lo, hi, low, high, l⟩ : Con) k)).length + 2 * sizeC x ≤ s.length + 2 + 2 * sizeL l := by
            rw [List.length_append, List.length_append, ← HOW.out]
            omega
          have HX := Lib.hid (And.intro hx (And.intro hc5 (And.intro hr5 (And.intro hd' (And.intro (HL.out.2.2 x (List.mem_of_getElem? hx)) hlen)))))
          clear hx hc5 hr5 q0 q1 q2 q3 q4 q5 hd' hkk hlen htk hle
          go_wp2_with fail
          refine (IH d' HX.out.2.2.2.1 w0 _ _ x A5 cap5 _ _ (deep + 1) (by have := HX.out.2.2.2.1; omega) HS.out HX.out.2.2.1 HX.out.2.1 (by have h := HX.out.2.2.2.2.1; rw [HX.out.2.2.2.1] at h; exact h) (by omega) (by have := HX.out.2.2.2.2.2; omega)).mono ?_
          rintro e w9 ⟨v9, rfl, h9⟩
          have HN : Hid (St w0.heap.size w0 w9 (Row2 v9 (s ++ (([] ++ [] : List Rg) ++ kidsE d (⟨op, lo, hi, low, high, l⟩ : Con) (k + 1))) • Blk w.heap.size (.cells #[.int .i64 op, .int .i64 lo, .int .i64 hi, .bool low, .bool high, .slice (some ⟨gb, off, none⟩) l.length cap] 36) • R)) := Lib.hid (by
            have e : kidsE d (⟨op, lo, hi, low, high, l⟩ : Con) (k + 1) = kidsE d (⟨op, lo, hi, low, high, l⟩ : Con) k ++ endsL d' x := by
              rw [HX.out.2.2.2.1]
              show (l.take (k + 1)).flatMap _ = (l.take k).flatMap _ ++ _
              rw [List.take_add_one, HX.out.1, List.flatMap_append]
              simp
            rw [e, ← List.append_assoc, ← List.append_assoc]
            have h8 := h9
            rw [← List.append_assoc] at h8
            exact h8)
          clear h9 d0 d1 d2 d3 d4 d5 c5
          go_wp2
          exact ⟨⟨k + 1, by omega, by go_num, HN⟩, by simp only [intOf]; omega⟩
        · have hk2 : k = l.length := by omega
          have HE : Hid (s ++ (([] ++ [] : List Rg) ++ kidsE d (⟨op, lo, hi, low, high, l⟩ : Con) k) = s ++ endsL d (⟨op, lo, hi, low, high, l⟩ : Con)) := Lib.hid (by rw [ends_own d (⟨op, lo, hi, low, high, l⟩ : Con) k (.inr hk2), HOW.out])
          clear hk2
          go_wp2
          go_ret
          refine ⟨_, rfl, ?_⟩
          rw [← HE.out]
          exact HS.out.drop2
      · have bd : decide (deep < 41) = false := decide_eq_false hdd
        have hd0 : d = 0 := by omega
        have HE : Hid (s ++ (([] ++ [] : List Rg) ++ kidsE d (⟨op, lo, hi, low, high, l⟩ : Con) k) = s ++ endsL d (⟨op, lo, hi, low, high, l⟩ : Con)) := Lib.hid (by rw [ends_own d (⟨op, lo, hi, low, high, l⟩ : Con) k (.inl hd0), HOW.out])
        clear hd0
        by_cases hlt : k < l.length
        all_goals
          go_wp2
          go_ret
          refine ⟨_, rfl, ?_⟩
          rw [← HE.out]
          exact HS.out.drop2
theorem rends_at (d : Nat) (hd : d ≤ 40) : RendsAt d := by
  induction d with
  | zero => exact rends_step 0 hd fun d' h => by omega
  | succ d ih => exact rends_step (d + 1) hd (fun d' h => by have e : d = d' := by omega
                                                             rw [← e]; exact ih (by omega))
end Go.Proofs.Ytkidoggmlafkgaa.Bd

/- The walk of the reference's Set at layer 12. -/
namespace Go.Proofs.Ytkidoggmlafkgaa.Bd
open Go.RowKit Go.Proofs.Ytkidoggmlafkgaa.Sep Go.Proofs.Ytkidoggmlafkgaa.Span Go.Proofs.YtkidoggmlafkgaaW.PrintWords
variable {w0 w : World} {R : HP}

/-- How far a piece that begins at x reaches: to the next cut. -/
def hiF (x : Int) : List Rg → Int → Int
  | [], hi => hi
  | z :: l, hi => hiF x l (if x < z.1 ∧ z.1 - 1 < hi then z.1 - 1 else hi)
theorem hiF_cons (x : Int) (z : Rg) (l : List Rg) (hi : Int) : hiF x (z :: l) hi = hiF x l (if x < z.1 ∧ z.1 - 1 < hi then z.1 - 1 else hi) := rfl
theorem hiF_snoc (x : Int) (l : List Rg) (z : Rg) (hi : Int) : hiF x (l ++ [z]) hi = if x < z.1 ∧ z.1 - 1 < hiF x l hi then z.1 - 1 else hiF x l hi := by
  induction l generalizing hi with
  | nil => rfl
  | cons y l ih => rw [List.cons_append, hiF_cons, ih, hiF_cons]
theorem hiF_le (x : Int) (l : List Rg) : ∀ hi, hiF x l hi ≤ hi ∧ ∀ z ∈ l, x < z.1 → hiF x l hi ≤ z.1 - 1 := by
  induction l with
  | nil => intro hi; exact ⟨Int.le_refl _, fun z h => by cases h⟩
  | cons y l ih =>
    intro hi
    rw [hiF_cons]
    by_cases h : x < y.1 ∧ y.1 - 1 < hi
    · rw [if_pos h]
      obtain ⟨h1, h2⟩ := ih (y.1 - 1)
      refine ⟨by omega, fun z hz hx => ?_⟩
      rcases List.mem_cons.1 hz with rfl | hz
      · exact h1
      · exact h2 z hz hx
    · rw [if_neg h]
      obtain ⟨h1, h2⟩ := ih hi
      refine ⟨h1, fun z hz hx => ?_⟩
      rcases List.mem_cons.1 hz with rfl | hz
      · omega
      · exact h2 z hz hx
theorem hiF_is (x : Int) (l : List Rg) : ∀ hi, hiF x l hi = hi ∨ ∃ z ∈ l, x < z.1 ∧ hiF x l hi = z.1 - 1 := by
  induction l with
  | nil => intro hi; exact .inl rfl
  | cons y l ih =>
    intro hi
    rw [hiF_cons]
    by_cases h : x < y.1 ∧ y.1 - 1 < hi
    · rw [if_pos h]
      rcases ih (y.1 - 1) with h1 | ⟨z, hz, h1, h2⟩
      · exact .inr ⟨y, List.mem_cons_self, h.1, h1⟩
      · exact .inr ⟨z, List.mem_cons_of_mem _ hz, h1, h2⟩
    · rw [if_neg h]
      rcases ih hi with h1 | ⟨z, hz, h1, h2⟩
      · exact .inl h1
      · exact .inr ⟨z, List.mem_cons_of_mem _ hz, h1, h2⟩
theorem hiF_bounds {x : Int} {l : List Rg} (hx : x ≤ maxI) : x ≤ hiF x l maxI ∧ hiF x l maxI ≤ maxI := by
  refine ⟨?_, (hiF_le x l maxI).1⟩
  rcases hiF_is x l maxI with h | ⟨z, _, h1, h2⟩ <;> omega
theorem top_cut (n : Int) (l : List Rg) (h : ∃ z ∈ l, z.1 ≤ n) : ∃ z ∈ l, z.1 ≤ n ∧ ∀ y ∈ l, y.1 ≤ n → y.1 ≤ z.1 := by
  induction l with
  | nil => obtain ⟨z, hz, _⟩ := h; cases hz
  | cons x l ih =>
    by_cases hl : ∃ z ∈ l, z.1 ≤ n
    · obtain ⟨z, hz, h1, h2⟩ := ih hl
      by_cases hx : x.1 ≤ n ∧ z.1 < x.1
      · refine ⟨x, List.mem_cons_self, hx.1, fun y hy h => ?_⟩
        rcases List.mem_cons.1 hy with rfl | hy
        · exact Int.le_refl _
        · have := h2 y hy h; omega
      · refine ⟨z, List.mem_cons_of_mem _ hz, h1, fun y hy h => ?_⟩
        rcases List.mem_cons.1 hy with rfl | hy
        · omega
        · exact h2 y hy h
    · obtain ⟨z, hz, h1⟩ := h
      rcases List.mem_cons.1 hz with rfl | hz
      · refine ⟨z, List.mem_cons_self, h1, fun y hy h => ?_⟩
        rcases List.mem_cons.1 hy with rfl | hy
        · exact Int.le_refl _
        · exact absurd ⟨y, hy, h⟩ hl
      · exact absurd ⟨z, hz, h1⟩ hl
/-- The pieces that a constraint lets in. -/
def outF (c : Con) (cuts l : List Rg) : List Rg := (l.filter fun z => inB 40 c z.1).map fun z => (z.1, hiF z.1 cuts maxI)
theorem outF_snoc (c : Con) (cuts l : List Rg) (z : Rg) : outF c cuts (l ++ [z]) = outF c cuts l ++ (if inB 40 c z.1 then [(z.1, hiF z.1 cuts maxI)] else []) := by
  unfold outF
  rw [List.filter_append, List.map_append]
  congr 1
  cases h : inB 40 c z.1 <;> simp [h]
theorem outF_length (c : Con) (cuts l : List Rg) : (outF c cuts l).length ≤ l.length := by
  unfold outF
  rw [List.length_map]
  exact List.length_filter_le _ _
theorem outF_ok (c : Con) (cuts l : List Rg) (h : ∀ r ∈ l, okR r) : ∀ r ∈ outF c cuts l, okR r := by
  intro r hr
  unfold outF at hr
  obtain ⟨z, hz, rfl⟩ := List.mem_map.1 hr
  have h1 := h z (List.mem_filter.1 hz).1
  unfold okR at *
  have h2 := hiF_bounds (l := cuts) h1.2.1
  simp only
  omega
theorem outF_has (c : Con) (cuts : List Rg) (hm : ∃ z ∈ cuts, z.1 = minI) (hE : ∀ z ∈ endsL 40 c, z ∈ cuts) (n : Int) (h1 : minI ≤ n) (h2 : n ≤ maxI) : hasB (outF c cuts cuts) n = inB 40 c n := by
  have hconst : ∀ z ∈ cuts, z.1 ≤ n → (∀ y ∈ cuts, ¬ (z.1 < y.1 ∧ y.1 ≤ n)) → inB 40 c n = inB 40 c z.1 := fun z _ h3 h4 => inB_const z.1 n h3 h2 40 40 c (by omega) fun y hy => h4 y (hE y hy)
  rw [Bool.eq_iff_iff]
  constructor
  · intro h
    unfold hasB at h
    obtain ⟨r, hr, hin⟩ := List.any_eq_true.1 h
    unfold outF at hr
    obtain ⟨z, hz, rfl⟩ := List.mem_map.1 hr
    obtain ⟨hz1, hz2⟩ := List.mem_filter.1 hz
    obtain ⟨g1, g2⟩ := inR_eq.1 hin
    simp only at g1 g2
    rw [hconst z hz1 g1 fun y hy hc => ?_]
    · exact hz2
    · have := (hiF_le z.1 cuts maxI).2 y hy hc.1
      omega
  · intro h
    obtain ⟨z0, hz0, e0⟩ := hm
    obtain ⟨z, hz, g1, g2⟩ := top_cut n cuts ⟨z0, hz0, by omega⟩
    have g3 : ∀ y ∈ cuts, ¬ (z.1 < y.1 ∧ y.1 ≤ n) := fun y hy hc => by have := g2 y hy hc.2; omega
    have g4 : inB 40 c z.1 = true := by rw [← hconst z hz g1 g3]; exact h
    unfold hasB
    refine List.any_eq_true.2 ⟨(z.1, hiF z.1 cuts maxI), ?_, inR_eq.2 ⟨g1, ?_⟩⟩
    · unfold outF
      exact List.mem_map.2 ⟨z, List.mem_filter.2 ⟨hz, g4⟩, rfl⟩
    · simp only
      rcases hiF_is z.1 cuts maxI with e | ⟨y, hy, h5, e⟩
      · omega
      · have := g3 y hy
        omega

set_option maxHeartbeats 4000000 in
theorem rset_calls (c : Con) (A : Option Addr) (cap : Nat) (vp : Value) (p : List Rg) (h : St w0.heap.size w0 w R) (hl : RC w0 A c.f5) (hcap : c.f5.length ≤ cap) (hok : okD 41 c) (hsz : sizeC c ≤ 1000) (hp : ∀ W, St w0.heap.size w0 W R → R2 W vp p) (hpl : p.length ≤ 2000) (hop : ∀ r ∈ p, okR r) :
    Calls Try.prog 32 #[.agg #[.int .i64 c.f0, .int .i64 c.f1, .int .i64 c.f2, .bool c.f3, .bool c.f4, .slice A c.f5.length cap], vp] w fun e w' =>
      ∃ v' u, e = .returned v' ∧ right u ∧ (∀ n, hasB u n = (inB 40 c n && hasB p n)) ∧ (∀ r ∈ u, okR r) ∧ St w0.heap.size w0 w' (Row2 v' u • R) := by
  have H := Lib.hid (h.alloc (.cells #[.int .i64 c.f0, .int .i64 c.f1, .int .i64 c.f2, .bool c.f3, .bool c.f4, .slice A c.f5.length cap] 36))
  have HP := Lib.hid (And.intro hp (And.intro hop (And.intro hl hok)))
  clear h hp hop hl hok
  go_enter Try.func32, Try.ntmps32
  have b0 : ∀ o, (w.alloc _ |>.alloc o).cell? ⟨w.heap.size, 0, none⟩ = _ := fun o => (H.out.alloc o).two.cell 0 rfl
  have b1 : ∀ o, (w.alloc _ |>.alloc o).cell? ⟨w.heap.size, 1, none⟩ = _ := fun o => (H.out.alloc o).two.cell 1 rfl
  have b2 : ∀ o, (w.alloc _ |>.alloc o).cell? ⟨w.heap.size, 2, none⟩ = _ := fun o => (H.out.alloc o).two.cell 2 rfl
  have b3 : ∀ o, (w.alloc _ |>.alloc o).cell? ⟨w.heap.size, 3, none⟩ = _ := fun o => (H.out.alloc o).two.cell 3 rfl
  have b4 : ∀ o, (w.alloc _ |>.alloc o).cell? ⟨w.heap.size, 4, none⟩ = _ := fun o => (H.out.alloc o).two.cell 4 rfl
  have b5 : ∀ o, (w.alloc _ |>.alloc o).cell? ⟨w.heap.size, 5, none⟩ = _ := fun o => (H.out.alloc o).two.cell 5 rfl
  go_wp2_with fail
  refine (rends_at 40 (by omega) w0 _ _ c A cap _ [(minI, minI)] 1 (by omega) (lit [(minI, minI)] (alloc_at (n := w.heap.size + 1) H.out _ (by simp)) rfl (by decide)) HP.out.2.2.1 hcap HP.out.2.2.2 hsz (by simp; omega)).mono ?_
  rintro e w1 ⟨v1, rfl, h1⟩
  obtain ⟨_, A1, c1, rfl, hc1, hcm1, -⟩ := id h1.reads
  have hcl : ([(minI, minI)] ++ endsL 40 c).length ≤ 2001 := by
    have := endsL_length 40 c
    rw [List.length_append, List.length_singleton]
    omega
  have HK : Hid ((∃ z ∈ [(minI, minI)] ++ endsL 40 c, z.1 = minI) ∧ (∀ r ∈ [(minI, minI)] ++ endsL 40 c, okR r) ∧ ∀ z ∈ endsL 40 c, z ∈ [(minI, minI)] ++ endsL 40 c) := Lib.hid ⟨⟨(minI, minI), by simp, rfl⟩, fun r hr => by
    rcases List.mem_append.1 hr with hr | hr
    · obtain rfl := List.mem_singleton.1 hr
      exact ⟨Int.le_refl _, show minI ≤ maxI by decide, Int.le_refl _, show minI ≤ maxI by decide⟩
    · exact endsL_ok 40 c HP.out.2.2.2 r hr, fun z hz => List.mem_append_right _ hz⟩
  have H1 := Lib.hid (h1.nil 32 2)
  clear h1 b0 b1 b2 b3 b4 b5 H hc1 hcm1
  generalize [(minI, minI)] ++ endsL 40 c = cuts at *
  go_wp2
  go_loopw [6, 7] (fun vo i wr => ∃ k : Nat, k ≤ cuts.length ∧ i = .int .i64 k ∧ Hid (St w0.heap.size w0 wr (Row2 vo (outF c cuts (cuts.take k)) • Row2 (.slice A1 cuts.length c1) cuts • Blk w.heap.size (.cells #[.int .i64 c.f0, .int .i64 c.f1, .int .i64 c.f2, .bool c.f3, .bool c.f4, .slice A c.f5.length cap] 36) • R))) (fun _ i _ => cuts.length - (intOf i).toNat)
  case atStart => exact ⟨0, Nat.zero_le _, rfl, H1⟩
  case round =>
    clear H1
    obtain ⟨i, hi, rfl, HS⟩ := hrel
    by_cases hlt : i < cuts.length
    · obtain ⟨x, hx⟩ : ∃ x, cuts[i]? = some x := ⟨_, List.getElem?_eq_getElem hlt⟩
      obtain ⟨x1, x2, x3, x4⟩ := HK.out.2.1 x (List.mem_of_getElem? hx)
      simp only [minI, maxI] at x1 x2
      have HX := Lib.hid hx
      clear hx x3 x4
      go_wp2
      go_loopw [8, 9] (fun vh j wq => ∃ k : Nat, k ≤ cuts.length ∧ j = .int .i64 k ∧ vh = .int .i64 (hiF x.1 (cuts.take k) maxI) ∧ Hid (St w0.heap.size w0 wq (Row2 u6 (outF c cuts (cuts.take i)) • Row2 (.slice A1 cuts.length c1) cuts • Blk w.heap.size (.cells #[.int .i64 c.f0, .int .i64 c.f1, .int .i64 c.f2, .bool c.f3, .bool c.f4, .slice A c.f5.length cap] 36) • R))) (fun _ j _ => cuts.length - (intOf j).toNat)
      case atStart => exact ⟨0, Nat.zero_le _, rfl, rfl, HS⟩
      case round =>
        clear HS
        obtain ⟨k, hk, rfl, rfl, HS⟩ := hrel
        have hb := hiF_bounds (x := x.1) (l := cuts.take k) (by simp only [maxI]; omega)
        generalize hhi : hiF x.1 (cuts.take k) maxI = hi' at *
        simp only [maxI] at hb
        have HH := Lib.hid hhi
        clear hhi
        by_cases hltk : k < cuts.length
        · obtain ⟨z, hz⟩ : ∃ z, cuts[k]? = some z := ⟨_, List.getElem?_eq_getElem hltk⟩
          obtain ⟨z1, z2, z3, z4⟩ := HK.out.2.1 z (List.mem_of_getElem? hz)
          simp only [minI, maxI] at z1 z2
          obtain ⟨_, _, e, _, _, hat⟩ := id (St.r2 HS.out.two)
          obtain ⟨g, off, e2, d0, -⟩ := hat i x HX.out
          obtain ⟨g', off', e3, q0, -⟩ := hat k z hz
          simp only [Value.slice.injEq] at e
          obtain ⟨rfl, -, rfl⟩ := e
          rw [e2] at e3
          obtain ⟨rfl, rfl⟩ : g = g' ∧ off = off' := by simpa using e3
          subst e2
          have HZ := Lib.hid hz
          have hw : IntKind.i64.wrap (z.1 - 1) = z.1 - 1 ∨ z.1 = -9223372036854775808 := by
            by_cases h : z.1 = -9223372036854775808
            · exact .inr h
            · exact .inl (IntWalk.i64_in _ (by omega))
          have HT : Hid (hiF x.1 (cuts.take (k + 1)) maxI = if x.1 < z.1 ∧ z.1 - 1 < hi' then z.1 - 1 else hi') := Lib.hid (by
            rw [List.take_add_one, HZ.out, ← HH.out]
            exact hiF_snoc _ _ _ _)
          clear hat hz
          by_cases hgt : x.1 < z.1
          · have hw2 : IntKind.i64.wrap (z.1 - 1) = z.1 - 1 := by
              rcases hw with h | h
              · exact h
              · omega
            clear hw
            have bg : decide (z.1 > x.1) = true := decide_eq_true hgt
            by_cases hlt2 : z.1 - 1 < hi'
            · have bl : decide (z.1 - 1 < hi') = true := decide_eq_true hlt2
              have HN : Hid (.int .i64 (z.1 - 1) = (.int .i64 (hiF x.1 (cuts.take (k + 1)) maxI) : Value)) := Lib.hid (by rw [HT.out, if_pos ⟨hgt, hlt2⟩])
              go_wp2_with fail
              go_quiet (fail)
              clear hw2
              go_wp2
              exact ⟨⟨k + 1, by omega, by go_num, HN.out, Lib.hid (HS.out.drewN _)⟩, by simp only [intOf]; omega⟩
            · have bl : decide (z.1 - 1 < hi') = false := decide_eq_false hlt2
              have HN : Hid (.int .i64 hi' = (.int .i64 (hiF x.1 (cuts.take (k + 1)) maxI) : Value)) := Lib.hid (by rw [HT.out, if_neg (fun h => hlt2 h.2)])
              go_wp2_with fail
              go_quiet (fail)
              clear hw2
              go_wp2
              exact ⟨⟨k + 1, by omega, by go_num, HN.out, Lib.hid (HS.out.drewN _)⟩, by simp only [intOf]; omega⟩
          · have bg : decide (z.1 > x.1) = false := decide_eq_false hgt
            have HN : Hid (.int .i64 hi' = (.int .i64 (hiF x.1 (cuts.take (k + 1)) maxI) : Value)) := Lib.hid (by rw [HT.out, if_neg (fun h => hgt h.1)])
            clear hw
            go_wp2_with fail
            go_quiet (fail)
            go_wp2
            exact ⟨⟨k + 1, by omega, by go_num, HN.out, Lib.hid (HS.out.drewN _)⟩, by simp only [intOf]; omega⟩
        · have HE : Hid (hi' = hiF x.1 cuts maxI) := Lib.hid (by rw [← HH.out, List.take_of_length_le (by omega)])
          obtain ⟨_, _, e, _, _, hat⟩ := id (St.r2 HS.out.two)
          obtain ⟨g, off, e2, d0, -⟩ := hat i x HX.out
          simp only [Value.slice.injEq] at e
          obtain ⟨rfl, -, rfl⟩ := e
          subst e2
          have HCUT : Hid (∀ (W : World) (vo : Value) (o : List Rg) (Q : Sep.HP), St w0.heap.size w0 W (Row2 vo o • Row2 (.slice (some ⟨g, off, none⟩) cuts.length c1) cuts • Q) → W.cell? ⟨g, off + i * 2, none⟩ = some (.int .i64 x.1)) := Lib.hid (by
            intro W vo o Q hW
            obtain ⟨_, _, e, _, _, hat⟩ := St.r2 hW.two
            obtain ⟨g', off', e2, d0, -⟩ := hat i x HX.out
            simp only [Value.slice.injEq] at e
            obtain ⟨e, -, -⟩ := e
            rw [← e] at e2
            obtain ⟨rfl, rfl⟩ : g = g' ∧ off = off' := by simpa using e2
            exact d0)
          have b0 := HS.out.three.cell 0 rfl
          have b1 := HS.out.three.cell 1 rfl
          have b2 := HS.out.three.cell 2 rfl
          have b3 := HS.out.three.cell 3 rfl
          have b4 := HS.out.three.cell 4 rfl
          have b5 := HS.out.three.cell 5 rfl
          have hi0 : (0 : Int) ≤ (i : Int) := by omega
          have hi1 : (i : Int) < (cuts.length : Int) := by omega
          have hol : (outF c cuts (cuts.take i)).length ≤ 2001 := by
            have := outF_length c cuts (cuts.take i)
            rw [List.length_take] at this
            omega
          clear hat
          cases hib : inB 40 c x.1 with
          | true =>
            have HO : Hid (outF c cuts (cuts.take i) ++ [(x.1, hi')] = outF c cuts (cuts.take (i + 1))) := Lib.hid (by rw [List.take_add_one, HX.out, HE.out]; simp [outF_snoc, hib])
            go_wp2_with fail
            go_region_held3 (fun w' => w'.cell? ⟨w.heap.size, 0, none⟩ = some (.int .i64 c.f0) ∧ w'.cell? ⟨w.heap.size, 1, none⟩ = some (.int .i64 c.f1) ∧ w'.cell? ⟨w.heap.size, 2, none⟩ = some (.int .i64 c.f2) ∧ w'.cell? ⟨w.heap.size, 3, none⟩ = some (.bool c.f3) ∧
                w'.cell? ⟨w.heap.size, 4, none⟩ = some (.bool c.f4) ∧ w'.cell? ⟨w.heap.size, 5, none⟩ = some (.slice A c.f5.length cap) ∧ w'.cell? ⟨g, off + i * 2, none⟩ = some (.int .i64 x.1))
              (first | exact ⟨b0, b1, b2, b3, b4, b5, d0⟩ | exact ⟨h2.three.cell 0 rfl, h2.three.cell 1 rfl, h2.three.cell 2 rfl, h2.three.cell 3 rfl, h2.three.cell 4 rfl, h2.three.cell 5 rfl, HCUT.out _ _ _ _ h2⟩ | go_keep)
              (first
                | (go_at_call 34; ((with_reducible refine (in_calls c x.1 A cap HS.out.drew HP.out.2.2.1 hcap hsz).mono ?_); rintro e w2 ⟨rfl, h2⟩)))
            have H2 := Lib.hid h2
            have d0' := HCUT.out _ _ _ _ h2
            clear h2 b0 b1 b2 b3 b4 b5 d0
            go_wp2_with (at_builtin; refine Held.out ?_)
            refine ⟨?_⟩
            refine append2 rfl _ _ rfl _ _ (outF c cuts (cuts.take i)) [(x.1, hi')] rfl (H2.out.alloc _).two rfl (blkReadsN (n := 1) (c := 1) (alloc_at (n := w2.heap.size) H2.out _ rfl) rfl (by decide) (by decide) rfl) (by simp; omega) ?_
            intro v5 w5 h5
            have H5 := Lib.hid h5.drop2
            clear h5 d0'
            go_wp2
            exact ⟨⟨i + 1, by omega, by go_num, Lib.hid (by rw [← HO.out]; exact H5.out)⟩, by simp only [intOf]; omega⟩
          | false =>
            have HO : Hid (outF c cuts (cuts.take i) = outF c cuts (cuts.take (i + 1))) := Lib.hid (by rw [List.take_add_one, HX.out]; simp [outF_snoc, hib])
            go_wp2_with fail
            go_region_held3 (fun w' => w'.cell? ⟨w.heap.size, 0, none⟩ = some (.int .i64 c.f0) ∧ w'.cell? ⟨w.heap.size, 1, none⟩ = some (.int .i64 c.f1) ∧ w'.cell? ⟨w.heap.size, 2, none⟩ = some (.int .i64 c.f2) ∧ w'.cell? ⟨w.heap.size, 3, none⟩ = some (.bool c.f3) ∧
                w'.cell? ⟨w.heap.size, 4, none⟩ = some (.bool c.f4) ∧ w'.cell? ⟨w.heap.size, 5, none⟩ = some (.slice A c.f5.length cap) ∧ w'.cell? ⟨g, off + i * 2, none⟩ = some (.int .i64 x.1))
              (first | exact ⟨b0, b1, b2, b3, b4, b5, d0⟩ | exact ⟨h2.three.cell 0 rfl, h2.three.cell 1 rfl, h2.three.cell 2 rfl, h2.three.cell 3 rfl, h2.three.cell 4 rfl, h2.three.cell 5 rfl, HCUT.out _ _ _ _ h2⟩ | go_keep)
              (first
                | (go_at_call 34; ((with_reducible refine (in_calls c x.1 A cap HS.out.drew HP.out.2.2.1 hcap hsz).mono ?_); rintro e w2 ⟨rfl, h2⟩)))
            have H2 := Lib.hid h2
            clear h2 b0 b1 b2 b3 b4 b5 d0
            go_wp2
            exact ⟨⟨i + 1, by omega, by go_num, Lib.hid (by rw [← HO.out]; exact H2.out)⟩, by simp only [intOf]; omega⟩
    · have hk : i = cuts.length := by omega
      have hS := HS.out
      rw [hk, List.take_length] at hS
      have HS2 := Lib.hid hS
      have hol := outF_length c cuts cuts
      clear hS HS hk
      go_wp2_with fail
      refine (rmeet_calls u6 vp (outF c cuts cuts) p HS2.out (fun W hW => St.r2 hW) (fun W hW => HP.out.1 W hW.drop.drop.drop) (by omega) (by omega) (outF_ok c cuts cuts HK.out.2.1) HP.out.2.1).mono ?_
      rintro e w' ⟨v', u, rfl, hu1, hu2, hu3, -, hu5⟩
      have HU := Lib.hid (And.intro hu1 (And.intro hu2 (And.intro hu3 hu5.drop2.drop2.drop2)))
      clear hu1 hu2 hu3 hu5 HS2
      go_wp2
      go_ret
      obtain ⟨hu1, hu2, hu3, hu5⟩ := HU.out
      refine ⟨_, u, rfl, hu1, fun n => ?_, hu3, hu5⟩
      rw [hu2]
      by_cases hn : n < minI ∨ maxI < n
      · rw [hasB_out HP.out.2.1 hn]; simp
      · rw [outF_has c cuts HK.out.1 HK.out.2.2 n (by omega) (by omega)]
end Go.Proofs.Ytkidoggmlafkgaa.Bd

/- The walk of the law's awake at layer 12. -/
namespace Go.Proofs.Ytkidoggmlafkgaa.Bd
open Go.RowKit Go.Proofs.Ytkidoggmlafkgaa.Sep Go.Proofs.Ytkidoggmlafkgaa.Span Go.Proofs.YtkidoggmlafkgaaW.PrintWords
variable {B : Nat} {w0 w : World} {R : Sep.HP}

theorem set_at (arg : Value) (c : Con) (A : Option Addr) (cap : Nat) (harg : arg = aggC c A cap) (vp : Value) (p : List Rg) (h : St w0.heap.size w0 w R) (hl : RC w0 A c.f5) (hcap : c.f5.length ≤ cap) (hok : okD 40 c) (hsz : sizeC c ≤ 1000) (hp : ∀ W, St w0.heap.size w0 W R → R2 W vp p) (hpl : p.length ≤ 2000) (hop : ∀ r ∈ p, okR r) :
    Calls Try.prog 31 #[arg, vp] w fun e w' =>
      ∃ v' u, e = .returned v' ∧ right u ∧ (∀ n, hasB u n = (inB 40 c n && hasB p n)) ∧ u.length ≤ sizeC c + p.length ∧ (∀ r ∈ u, okR r) ∧ St w0.heap.size w0 w' (Row2 v' u • R) := by
  subst harg
  exact set_calls c A cap vp p h hl hcap hok hsz hp hpl hop
def cellC (x : Con) (A : Option Addr) (cap : Nat) : List Value := [.int .i64 x.f0, .int .i64 x.f1, .int .i64 x.f2, .bool x.f3, .bool x.f4, .slice A x.f5.length cap]
/-- Two constraints in a block of their own. -/
theorem rc_two {W : World} {g : Nat} {x y : Con} {A0 A1 : Option Addr} {c0 c1 : Nat} (h : ∀ k u, (cellC x A0 c0 ++ cellC y A1 c1)[k]? = some u → W.cell? ⟨g, k, none⟩ = some u) (hx : x.f5.length ≤ c0) (hy : y.f5.length ≤ c1) (rx : RC W A0 x.f5) (ry : RC W A1 y.f5) : RC W (some ⟨g, 0, none⟩) [x, y] := by
  refine ⟨rfl, by simp, fun _ => ⟨_, rfl, fun j p hp => ?_⟩⟩
  have hj : j = 0 ∨ j = 1 := by have := (List.getElem?_eq_some_iff.1 hp).1; simp at this; omega
  rcases hj with rfl | rfl
  · simp only [List.getElem?_cons_zero, Option.some.injEq] at hp
    subst hp
    refine ⟨cellC x A0 c0, rfl, PIn.k36_mk W x hx rx, fun i u hu => ?_⟩
    rw [Sep.add_plain]
    refine h _ u ?_
    have hi : i < 6 := (List.getElem?_eq_some_iff.1 hu).1
    rw [show PIn.k36.sz = 6 from rfl, show 0 * 6 + i = i from by omega, List.getElem?_append_left hi]
    exact hu
  · simp only [List.getElem?_cons_succ, List.getElem?_cons_zero, Option.some.injEq] at hp
    subst hp
    refine ⟨cellC y A1 c1, rfl, PIn.k36_mk W y hy ry, fun i u hu => ?_⟩
    rw [Sep.add_plain]
    refine h _ u ?_
    have hlx : (cellC x A0 c0).length = 6 := rfl
    rw [show PIn.k36.sz = 6 from rfl, List.getElem?_append_right (by omega), hlx, show 1 * 6 + i - 6 = i from by omega]
    exact hu
theorem okD_all (d : Nat) (c : Con) (h : okR (c.f1, c.f2)) (hc : ∀ x ∈ c.f5, okD d x) : okD (d + 1) c := ⟨h, hc⟩
theorem okD_leaf (d : Nat) (c : Con) (h : okR (c.f1, c.f2)) (hc : c.f5 = []) : okD d c := by
  cases d with
  | zero => trivial
  | succ d => exact ⟨h, fun x hx => by rw [hc] at hx; cases hx⟩
def lf (lo hi : Int) : Con := ⟨1, lo, hi, false, false, []⟩

def UC : Con := ⟨2, 0, 0, false, false, [lf 0 7, lf 9 9]⟩
def XC : Con := ⟨4, 0, 0, false, false, [UC, lf 3 3]⟩
def YC : Con := ⟨1, 0, 5, true, false, []⟩
theorem lf_ok (d : Nat) (lo hi : Int) (h : okR (lo, hi)) : okD d (lf lo hi) := okD_leaf d _ h rfl
theorem XC_ok : okD 40 XC := by
  have o : ∀ a b : Int, okB (a, b) = true → okR (a, b) := fun a b h => okB_all (s := [(a, b)]) (by simpa using h) _ (by simp)
  refine ⟨o 0 0 (by decide), fun x hx => ?_⟩
  rcases List.mem_cons.1 hx with rfl | hx
  · refine ⟨o 0 0 (by decide), fun x hx => ?_⟩
    rcases List.mem_cons.1 hx with rfl | hx
    · exact lf_ok _ _ _ (o 0 7 (by decide))
    · obtain rfl := List.mem_singleton.1 hx
      exact lf_ok _ _ _ (o 9 9 (by decide))
  · obtain rfl := List.mem_singleton.1 hx
    exact lf_ok _ _ _ (o 3 3 (by decide))
theorem YC_ok : okD 40 YC := okD_leaf 40 _ (show okR (0, 5) from okB_all (s := [(0, 5)]) (by decide) _ (by simp)) rfl
theorem lf_in (r : Nat) (lo hi n : Int) : inB (r + 1) (lf lo hi) n = (decide (lo ≤ n) && decide (n ≤ hi)) := by
  rw [inB_succ, if_neg (show ¬ (lf lo hi).f0 = 0 from show ¬ (1 : Int) = 0 by decide), if_pos (show (lf lo hi).f0 = 1 from rfl)]
  show ((false || decide (lo ≤ n)) && (false || decide (n ≤ hi))) = _
  rw [Bool.false_or, Bool.false_or]
theorem XC_in (n : Int) : inB 40 XC n = hasB [(0, 2), (4, 7), (9, 9)] n := by
  have e : inB 40 XC n = (inB 39 UC n && !inB 39 (lf 3 3) n) := by
    rw [inB_succ]
    simp [XC, exceptB]
  have e2 : inB 39 UC n = (inB 38 (lf 0 7) n || inB 38 (lf 9 9) n) := by
    rw [inB_succ]
    simp [UC]
  rw [e, e2, lf_in, lf_in, lf_in, Bool.eq_iff_iff]
  simp [hasB, inR]
  omega
theorem YC_in (n : Int) : inB 40 YC n = decide (n ≤ 5) := by
  rw [inB_succ, if_neg (show ¬ YC.f0 = 0 from show ¬ (1 : Int) = 0 by decide), if_pos (show YC.f0 = 1 from rfl)]
  show ((true || decide (0 ≤ n)) && (false || decide (n ≤ 5))) = _
  rw [Bool.true_or, Bool.false_or, Bool.true_and]
theorem ends_known {lo hi : Int} {ok : Bool} (h : EndsOf [(0, 2), (4, 7), (9, 9)] lo hi ok) : lo = 0 ∧ hi = 9 ∧ ok = true := by
  rcases h with ⟨_, _, _, h⟩ | ⟨h1, h2, h3, h4⟩
  · have := h 0
    simp [hasB, inR] at this
  · have a := h4 0 (by simp [hasB, inR])
    have b := h4 9 (by simp [hasB, inR])
    simp [hasB, inR] at h2 h3
    exact ⟨by omega, by omega, h1⟩

set_option maxHeartbeats 4000000 in
set_option maxRecDepth 100000 in
theorem awake12_calls (h : St B w0 w R) :
    Calls Try.prog 28 #[] w fun e w' => e = .returned (.bool true) ∧ St B w0 w' R := by
  have H0 := Lib.hid (h.alloc (.cells #[.int .i64 1, .int .i64 0, .int .i64 7, .bool false, .bool false, .slice none 0 0, .int .i64 1, .int .i64 9, .int .i64 9, .bool false, .bool false, .slice none 0 0] 36))
  have H1 := Lib.hid (alloc_at (n := w.heap.size + 1) H0.out (.cells #[.int .i64 2, .int .i64 0, .int .i64 0, .bool false, .bool false, .slice (some ⟨w.heap.size, 0, none⟩) 2 2] 36) (by simp))
  have H2 := Lib.hid (alloc_at (n := w.heap.size + 1 + 1) H1.out (.cells #[.int .i64 2, .int .i64 0, .int .i64 0, .bool false, .bool false, .slice (some ⟨w.heap.size, 0, none⟩) 2 2, .int .i64 1, .int .i64 3, .int .i64 3, .bool false, .bool false, .slice none 0 0] 36) (by simp))
  have H3 := Lib.hid (alloc_at (n := w.heap.size + 1 + 1 + 1) H2.out (.cells #[.int .i64 4, .int .i64 0, .int .i64 0, .bool false, .bool false, .slice (some ⟨w.heap.size + 1 + 1, 0, none⟩) 2 2] 36) (by simp)).drew
  have HRC := Lib.hid (rc_two (x := UC) (y := lf 3 3) (fun k u hu => H3.out.drop.cell k (by simpa [cellC, UC, lf] using hu)) (by decide) (by decide) (rc_two (x := lf 0 7) (y := lf 9 9) (fun k u hu => H3.out.drop.drop.drop.cell k (by simpa [cellC, lf] using hu)) (by decide) (Nat.le_refl 0) (RC.nil _ _) (RC.nil _ none)) (RC.nil _ none))
  have c0 := H3.out.cell 0 rfl
  have c1 := H3.out.cell 1 rfl
  have c2 := H3.out.cell 2 rfl
  have c3 := H3.out.cell 3 rfl
  have c4 := H3.out.cell 4 rfl
  have c5 := H3.out.cell 5 rfl
  clear h H0 H1 H2
  go_enter Try.func28, Try.ntmps28
  go_wp2_with fail
  go_region_held3 (fun w' => w'.cell? ⟨w.heap.size + 1 + 1 + 1, 0, none⟩ = some (.int .i64 4) ∧ w'.cell? ⟨w.heap.size + 1 + 1 + 1, 1, none⟩ = some (.int .i64 0) ∧ w'.cell? ⟨w.heap.size + 1 + 1 + 1, 2, none⟩ = some (.int .i64 0) ∧ w'.cell? ⟨w.heap.size + 1 + 1 + 1, 3, none⟩ = some (.bool false) ∧
      w'.cell? ⟨w.heap.size + 1 + 1 + 1, 4, none⟩ = some (.bool false) ∧ w'.cell? ⟨w.heap.size + 1 + 1 + 1, 5, none⟩ = some (.slice (some ⟨w.heap.size + 1 + 1, 0, none⟩) 2 2))
    (first | exact ⟨c0, c1, c2, c3, c4, c5⟩ | exact ⟨cell_of_below h6.below c0, cell_of_below h6.below c1, cell_of_below h6.below c2, cell_of_below h6.below c3, cell_of_below h6.below c4, cell_of_below h6.below c5⟩ | exact ⟨cell_of_below h5.below c0, cell_of_below h5.below c1, cell_of_below h5.below c2, cell_of_below h5.below c3, cell_of_below h5.below c4, cell_of_below h5.below c5⟩)
    (first
      | (go_at_call 27; refine (whole_calls (St.start _)).mono ?_; rintro e w5 ⟨v5, rfl, h5⟩)
      | (go_at_call 31; refine (set_at _ XC (some ⟨w.heap.size + 1 + 1, 0, none⟩) 2 rfl v5 [(minI, maxI)] h5 HRC.out (by decide) XC_ok (by decide) (fun W hW => St.r2 hW) (by decide) ok_whole).mono ?_; rintro e w6 ⟨v6, u6, rfl, m1, m2, -, -, h6⟩))
  have e6 : u6 = [(0, 2), (4, 7), (9, 9)] := uniq m1 ⟨-1, by decide, by decide, by decide, by decide, by decide, by decide, trivial⟩ fun n => by
    rw [m2, XC_in]
    by_cases hn : n < minI ∨ maxI < n
    · rw [hasB_out ok_whole hn, hasB_out (okB_all (s := [(0, 2), (4, 7), (9, 9)]) (by decide)) hn]; rfl
    · rw [has_whole n (by omega) (by omega), Bool.and_true]
  subst e6
  have H6 := Lib.hid (St.nest H3.out h6).assoc.drop2.drop2.drop2.drop2.drop2
  clear m1 m2 h6 h5 c0 c1 c2 c3 c4 c5 H3 HRC
  go_wp2_with fail
  refine (bsize_calls H6.out).mono ?_
  rintro e w7 ⟨v7, rfl, h7⟩
  have H7 := Lib.hid h7
  clear h7 H6
  go_wp2_with fail
  refine (set_at _ YC none 0 rfl v7 [(0, maxI)] (St.start w7) (RC.nil _ _) (Nat.le_refl 0) YC_ok (by decide) (fun W hW => (St.r2 H7.out).below hW.below) (by decide) (okB_all (by decide))).mono ?_
  rintro e w8 ⟨v8, u8, rfl, m1, m2, -, -, h8⟩
  have e8 : u8 = [(0, 5)] := uniq m1 (right_one (by decide)) fun n => by
    rw [m2, YC_in, Bool.eq_iff_iff]
    simp [hasB, inR, maxI]
    omega
  subst e8
  have H8 := Lib.hid (St.nest H7.out h8).assoc.drop2.drop2
  clear m1 m2 h8 H7
  go_wp2_with fail
  refine (ends_calls v6 [(0, 2), (4, 7), (9, 9)] H8.out (fun W hW => St.r2 hW.two) (by decide) (okB_all (by decide))).mono ?_
  rintro e w9 ⟨lo, hi, ok, rfl, k1, h9⟩
  obtain ⟨rfl, rfl, rfl⟩ := ends_known k1
  have H9 := Lib.hid h9
  clear k1 h9 H8
  go_wp2_with fail
  refine (same12_calls v6 _ [(0, 2), (4, 7), (9, 9)] [(0, 2), (4, 7), (9, 9)] (H9.out.alloc _) (fun W hW => St.r2 hW.three) (fun W hW => St.r2 (lit [(0, 2), (4, 7), (9, 9)] hW rfl (by decide)))).mono ?_
  rintro e w10 ⟨rfl, h10⟩
  rw [show decide (([(0, 2), (4, 7), (9, 9)] : List Rg) = [(0, 2), (4, 7), (9, 9)]) = true from decide_eq_true rfl]
  have H10 := Lib.hid h10.drop
  clear h10 H9
  go_wp2_with fail
  refine (same12_calls v8 _ [(0, 5)] [(0, 5)] (H10.out.alloc _) (fun W hW => St.r2 hW.two) (fun W hW => St.r2 (lit [(0, 5)] hW rfl (by decide)))).mono ?_
  rintro e w11 ⟨rfl, h11⟩
  rw [show decide (([(0, 5)] : List Rg) = [(0, 5)]) = true from decide_eq_true rfl]
  have H11 := Lib.hid h11.drop.drop.drop
  clear h11 H10
  go_wp2
  go_ret
  exact ⟨rfl, H11.out⟩
end Go.Proofs.Ytkidoggmlafkgaa.Bd
