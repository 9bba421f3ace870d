/- The reference of 18, plain: arguments, statements, fragments. -/
import Derived.Test.YtbjddomocggjmaaFcRR
namespace Go.Proofs.Ytbjddomocggjmaa.Fc
open Go.RowKit Go.Proofs.YtbjddomocggjmaaW.PrintWords
open PFragcheckChecks

theorem rd73 {l : List Arg} {i : Nat} {a : Arg} (h : l[i]? = some a) : rd_T73 l (i : Int) = a := by
  show l.getD ((i : Int)).toNat z73 = a
  rw [Int.toNat_natCast, List.getD_eq_getElem?_getD, h]; rfl
theorem rd32 {l : List Stmt} {i : Nat} {a : Stmt} (h : l[i]? = some a) : rd_T32 l (i : Int) = a := by
  show l.getD ((i : Int)).toNat z32 = a
  rw [Int.toNat_natCast, List.getD_eq_getElem?_getD, h]; rfl
theorem rd34 {l : List Func} {i : Nat} {a : Func} (h : l[i]? = some a) : rd_T34 l (i : Int) = a := by
  show l.getD ((i : Int)).toNat z34 = a
  rw [Int.toNat_natCast, List.getD_eq_getElem?_getD, h]; rfl
theorem args_ev (l : List Arg) (hl : l.length ≤ M) (d : Nat) : ∀ i : Nat, i + d = l.length → Ev (fun k => spandrelref18_args.l0 k l i) ((l.drop i).all argB && decide (l.length ≤ 4096)) := by
  have hM : l.length ≤ 140737488351232 := hl
  induction d with
  | zero =>
    intro i hi
    refine Ev.step (f := fun _ => some _) (fun k => ?_) (Ev.now _)
    simp only [spandrelref18_args.l0]
    rw [if_neg (by omega), List.drop_of_length_le (by omega), List.all_nil, Bool.true_and]
    congr 1
    rw [decide_eq_decide]
    omega
  | succ d ih =>
    intro i hi
    have hn := ih (i + 1) (by omega)
    have hlt : i < l.length := by omega
    have hr := rd73 (List.getElem?_eq_getElem hlt)
    have hd := List.drop_eq_getElem_cons hlt
    generalize l[i] = a at *
    have hw := wrap_nat i (by omega)
    rw [hd, List.all_cons]
    cases ha : argB a with
    | true =>
      rw [Bool.true_and]
      refine Ev.step (f := fun k => spandrelref18_args.l0 k l ((i + 1 : Nat) : Int)) (fun k => ?_) hn
      simp only [spandrelref18_args.l0]
      rw [if_pos (by omega), if_pos (by omega), hr, hw]
      unfold argB at ha
      cases h0 : a.f0 with
      | true =>
        rw [h0, if_pos rfl] at ha
        rw [if_pos rfl, if_pos (by simpa using ha), if_pos rfl]
      | false =>
        rw [h0, if_neg (by simp), Bool.and_eq_true] at ha
        rw [if_neg (by simp), if_neg (by simp), if_pos (by simpa using ha.1), if_neg (by simpa using ha.2)]
    | false =>
      rw [Bool.false_and, Bool.false_and]
      refine Ev.step (f := fun _ => some false) (fun k => ?_) (Ev.now _)
      simp only [spandrelref18_args.l0]
      rw [if_pos (by omega), if_pos (by omega), hr, hw]
      unfold argB at ha
      cases h0 : a.f0 with
      | true =>
        rw [h0, if_pos rfl] at ha
        rw [if_pos rfl, if_neg (by simpa using ha)]
      | false =>
        rw [h0, if_neg (by simp), Bool.and_eq_false_iff] at ha
        rw [if_neg (by simp), if_neg (by simp)]
        by_cases h1 : a.f2.toList = []
        · rw [if_pos h1]
          rcases ha with ha | ha
          · rw [h1] at ha; cases ha
          · rw [if_pos (by simpa using ha)]
        · rw [if_neg h1]
theorem args_f (l : List Arg) (hl : l.length ≤ M) : Ev (fun k => spandrelref18_args.f k l) (l.all argB && decide (l.length ≤ 4096)) := args_ev l hl l.length 0 (by omega)

/-- Both bodies, and then on. -/
def seqF (f3 f4 : List Stmt) (l : List Stmt) (d : Int) (i : Int) (k : Nat) : Option Bool :=
  (spandrelref18_body.f k f3 (wrap64 (d + 1))).bind fun t => (if t = true then ((spandrelref18_body.f k f4 (wrap64 (d + 1))).bind fun t => (if t = true then (spandrelref18_body.l0 k l d (wrap64 (i + 1))) else (some false))) else (some false))
theorem seq_ev {f3 f4 l : List Stmt} {d i : Int} {b3 b4 r : Bool} (h3 : Ev (fun k => spandrelref18_body.f k f3 (wrap64 (d + 1))) b3) (h4 : Ev (fun k => spandrelref18_body.f k f4 (wrap64 (d + 1))) b4) (hn : Ev (fun k => spandrelref18_body.l0 k l d (wrap64 (i + 1))) r) :
    Ev (seqF f3 f4 l d i) ((b3 && b4) && r) := by
  unfold seqF
  refine Ev.bind h3 ?_
  cases b3 with
  | false => exact Ev.congr (f := fun _ => some _) (fun k => by rw [if_neg (by simp)]; rfl) (Ev.now _)
  | true =>
    refine Ev.congr (f := fun k => (spandrelref18_body.f k f4 (wrap64 (d + 1))).bind fun t => (if t = true then (spandrelref18_body.l0 k l d (wrap64 (i + 1))) else (some false))) (fun k => by rw [if_pos rfl]) ?_
    refine Ev.bind (f := fun k t => (if t = true then (spandrelref18_body.l0 k l d (wrap64 (i + 1))) else (some false))) h4 ?_
    cases b4 with
    | false => exact Ev.congr (f := fun _ => some _) (fun k => by rw [if_neg (by simp)]; rfl) (Ev.now _)
    | true => exact Ev.congr (f := fun k => spandrelref18_body.l0 k l d (wrap64 (i + 1))) (fun k => by rw [if_pos rfl]) hn
/-- What is asked of a method's bodies. -/
def bodsB (b : List Stmt → Bool) (s : Stmt) : Bool :=
  if s.f0 = 1 then decide (s.f3.length + s.f4.length = 0) else if s.f0 = 4 then decide (s.f4.length = 0) && b s.f3 else b s.f3 && b s.f4
theorem j2_ev {s : Stmt} {l : List Stmt} {d i : Int} {b : List Stmt → Bool} {r : Bool} (hop : s.f0 = 1 ∨ s.f0 = 3 ∨ s.f0 = 4) (hb0 : b [] = true) (h3 : Ev (fun k => spandrelref18_body.f k s.f3 (wrap64 (d + 1))) (b s.f3)) (h4 : Ev (fun k => spandrelref18_body.f k s.f4 (wrap64 (d + 1))) (b s.f4)) (hn : Ev (fun k => spandrelref18_body.l0 k l d (wrap64 (i + 1))) r) :
    Ev (fun k => spandrelref18_body.j2 k l d i false s.f0 s.f1 s.f2 s.f3 s.f4) (bodsB b s && r) := by
  have hs := seq_ev h3 h4 hn
  unfold bodsB
  rcases hop with h | h | h
  · rw [if_pos h]
    by_cases h1 : s.f3.length = 0
    · by_cases h2 : s.f4.length = 0
      · have e3 : s.f3 = [] := List.length_eq_zero_iff.1 h1
        have e4 : s.f4 = [] := List.length_eq_zero_iff.1 h2
        rw [decide_eq_true (by omega)]
        have hs' : Ev (seqF s.f3 s.f4 l d i) (true && r) := by
          have := hs
          rw [show b s.f3 = true by rw [e3]; exact hb0, show b s.f4 = true by rw [e4]; exact hb0] at this
          exact this
        refine Ev.step (f := seqF s.f3 s.f4 l d i) (fun k => ?_) hs'
        simp only [spandrelref18_body.j2]
        rw [if_neg (by simp), if_pos h, if_neg (by omega), if_neg (by omega), if_neg (by omega)]
        rfl
      · rw [decide_eq_false (by omega), Bool.false_and]
        refine Ev.step (f := fun _ => some false) (fun k => ?_) (Ev.now _)
        simp only [spandrelref18_body.j2]
        rw [if_neg (by simp), if_pos h, if_neg (by omega), if_neg (by omega), if_pos (by omega)]
    · rw [decide_eq_false (by omega), Bool.false_and]
      refine Ev.step (f := fun _ => some false) (fun k => ?_) (Ev.now _)
      simp only [spandrelref18_body.j2]
      rw [if_neg (by simp), if_pos h, if_pos (by omega)]
  · rw [if_neg (by omega), if_neg (by omega)]
    refine Ev.step (f := seqF s.f3 s.f4 l d i) (fun k => ?_) hs
    simp only [spandrelref18_body.j2]
    rw [if_neg (by simp), if_neg (by omega), if_pos h]
    rfl
  · rw [if_neg (by omega), if_pos h]
    by_cases h2 : s.f4.length = 0
    · have e4 : s.f4 = [] := List.length_eq_zero_iff.1 h2
      rw [decide_eq_true h2, Bool.true_and]
      have hs' : Ev (seqF s.f3 s.f4 l d i) (b s.f3 && r) := by
        have := hs
        rw [show b s.f4 = true by rw [e4]; exact hb0, Bool.and_true] at this
        exact this
      refine Ev.step (f := seqF s.f3 s.f4 l d i) (fun k => ?_) hs'
      simp only [spandrelref18_body.j2]
      rw [if_neg (by simp), if_neg (by omega), if_neg (by omega), if_neg (by omega)]
      rfl
    · rw [decide_eq_false h2, Bool.false_and, Bool.false_and]
      refine Ev.step (f := fun _ => some false) (fun k => ?_) (Ev.now _)
      simp only [spandrelref18_body.j2]
      rw [if_neg (by simp), if_neg (by omega), if_neg (by omega), if_pos (by omega)]
theorem j2_true (s : Stmt) (l : List Stmt) (d i : Int) : Ev (fun k => spandrelref18_body.j2 k l d i true s.f0 s.f1 s.f2 s.f3 s.f4) false := by
  refine Ev.step (f := fun _ => some false) (fun k => ?_) (Ev.now _)
  simp only [spandrelref18_body.j2]
  rfl
theorem stmtB_eq (b : List Stmt → Bool) (s : Stmt) : stmtB b s = if s.f0 = 2 then fnB s.f1 && decide (s.f2.length + s.f3.length + s.f4.length = 0) else if s.f0 = 1 ∨ s.f0 = 3 ∨ s.f0 = 4 then (mtB s.f1 && (s.f2.all argB && decide (s.f2.length ≤ 4096))) && bodsB b s else false := by
  unfold stmtB bodsB
  by_cases h2 : s.f0 = 2
  · rw [if_pos h2, if_pos h2]
  rw [if_neg h2, if_neg h2]
  cases hm : mtB s.f1 with
  | false => simp
  | true =>
    rw [if_neg (by simp), Bool.true_and]
    by_cases hl : 4096 < s.f2.length
    · rw [if_pos hl, decide_eq_false (show ¬ s.f2.length ≤ 4096 by omega)]
      simp
    · rw [if_neg hl, decide_eq_true (show s.f2.length ≤ 4096 by omega), Bool.and_true, all_any]
      cases ha : (s.f2.any fun a => !argB a) with
      | true => simp
      | false =>
        rw [if_neg (by simp)]
        by_cases h1 : s.f0 = 1
        · rw [if_pos h1, if_pos (.inl h1), if_pos h1]; rfl
        · rw [if_neg h1]
          by_cases h4 : s.f0 = 4
          · rw [if_pos h4, if_pos (.inr (.inr h4)), if_neg h1, if_pos h4]; rfl
          · rw [if_neg h4]
            by_cases h3 : s.f0 = 3
            · rw [decide_eq_true h3, if_pos (.inr (.inl h3)), if_neg h1, if_neg h4]; rfl
            · rw [decide_eq_false h3, if_neg (by omega)]; rfl
/-- One statement, and then on. -/
theorem stmt_ev {s : Stmt} (ho : ∀ d, okS d s) {l : List Stmt} {d : Int} {i : Nat} {b : List Stmt → Bool} {r : Bool} (hi : i < l.length) (hg : l[i]? = some s) (hb0 : b [] = true) (h3 : Ev (fun k => spandrelref18_body.f k s.f3 (wrap64 (d + 1))) (b s.f3)) (h4 : Ev (fun k => spandrelref18_body.f k s.f4 (wrap64 (d + 1))) (b s.f4)) (hn : Ev (fun k => spandrelref18_body.l0 k l d (wrap64 ((i : Int) + 1))) r) :
    Ev (fun k => spandrelref18_body.l0 k l d i) (stmtB b s && r) := by
  obtain ⟨o0, o1, o2, o3, o4, o5, -, -⟩ := ho 1
  have p2 : s.f2.length ≤ 140737488351232 := o2
  have p3 : s.f3.length ≤ 140737488351232 := o3
  have p4 : s.f4.length ≤ 140737488351232 := o4
  have hr := rd32 hg
  rw [stmtB_eq]
  by_cases h2 : s.f0 = 2
  · rw [if_pos h2]
    have hw : wrap64 ((wrap64 ((s.f2.length : Int) + (s.f3.length : Int))) + (s.f4.length : Int)) = (s.f2.length : Int) + (s.f3.length : Int) + (s.f4.length : Int) := by
      rw [wrap_in (x := (s.f2.length : Int) + (s.f3.length : Int)) (by omega) (by omega), wrap_in (by omega) (by omega)]
    refine Ev.step (f := fun k => (spandrelref18_Function.f k s.f1).bind fun t => (if t = true then (if (s.f2.length : Int) + (s.f3.length : Int) + (s.f4.length : Int) > 0 then (some false) else (spandrelref18_body.l0 k l d (wrap64 ((i : Int) + 1)))) else (some false))) (fun k => ?_) ?_
    · simp only [spandrelref18_body.l0]
      rw [if_pos (by omega), if_pos (by omega), hr, if_pos h2, hw]
    · refine Ev.bind (f := fun k t => (if t = true then (if (s.f2.length : Int) + (s.f3.length : Int) + (s.f4.length : Int) > 0 then (some false) else (spandrelref18_body.l0 k l d (wrap64 ((i : Int) + 1)))) else (some false))) (function_f s.f1 o1) ?_
      cases fnB s.f1 with
      | false => exact Ev.congr (f := fun _ => some _) (fun k => by rw [if_neg (by simp)]; rfl) (Ev.now _)
      | true =>
        by_cases h0 : s.f2.length + s.f3.length + s.f4.length = 0
        · rw [decide_eq_true h0]
          exact Ev.congr (f := fun k => spandrelref18_body.l0 k l d (wrap64 ((i : Int) + 1))) (fun k => by rw [if_pos rfl, if_neg (by omega)]) hn
        · rw [decide_eq_false h0]
          exact Ev.congr (f := fun _ => some _) (fun k => by rw [if_pos rfl, if_pos (by omega)]; rfl) (Ev.now _)
  rw [if_neg h2]
  by_cases hop : s.f0 = 1 ∨ s.f0 = 3 ∨ s.f0 = 4
  · rw [if_pos hop]
    refine Ev.step (f := fun k => (spandrelref18_Method.f k s.f1).bind fun t => (if t = true then ((spandrelref18_args.f k s.f2).bind fun t150 => (spandrelref18_body.j2 k l d i (!t150) s.f0 s.f1 s.f2 s.f3 s.f4)) else (spandrelref18_body.j2 k l d i true s.f0 s.f1 s.f2 s.f3 s.f4))) (fun k => ?_) ?_
    · simp only [spandrelref18_body.l0]
      rw [if_pos (by omega), if_pos (by omega), hr, if_neg h2]
      rcases hop with h | h | h
      · rw [if_pos h]
      · rw [if_neg (by omega), if_pos h]
      · rw [if_neg (by omega), if_neg (by omega), if_pos h]
    · refine Ev.bind (f := fun k t => (if t = true then ((spandrelref18_args.f k s.f2).bind fun t150 => (spandrelref18_body.j2 k l d i (!t150) s.f0 s.f1 s.f2 s.f3 s.f4)) else (spandrelref18_body.j2 k l d i true s.f0 s.f1 s.f2 s.f3 s.f4))) (method_f s.f1 o1) ?_
      cases mtB s.f1 with
      | false =>
        rw [Bool.false_and, Bool.false_and, Bool.false_and]
        exact Ev.congr (fun k => by rw [if_neg (by simp)]) (j2_true s l d i)
      | true =>
        rw [Bool.true_and]
        refine Ev.congr (f := fun k => (spandrelref18_args.f k s.f2).bind fun t150 => (spandrelref18_body.j2 k l d i (!t150) s.f0 s.f1 s.f2 s.f3 s.f4)) (fun k => by rw [if_pos rfl]) ?_
        refine Ev.bind (f := fun k t150 => (spandrelref18_body.j2 k l d i (!t150) s.f0 s.f1 s.f2 s.f3 s.f4)) (args_f s.f2 o2) ?_
        cases (s.f2.all argB && decide (s.f2.length ≤ 4096)) with
        | false =>
          rw [Bool.false_and, Bool.false_and]
          exact j2_true s l d i
        | true =>
          rw [Bool.true_and]
          exact j2_ev hop hb0 h3 h4 hn
  · rw [if_neg hop, Bool.false_and]
    refine Ev.step (f := fun k => spandrelref18_body.j2 k l d i true s.f0 s.f1 s.f2 s.f3 s.f4) (fun k => ?_) (j2_true s l d i)
    simp only [spandrelref18_body.l0]
    rw [if_pos (by omega), if_pos (by omega), hr, if_neg h2, if_neg (by omega), if_neg (by omega), if_neg (by omega)]
theorem bodyB_nil (r : Nat) : bodyB r [] = true := by cases r <;> rfl
theorem loop_ev (r : Nat) (d : Int) (hb : ∀ l : List Stmt, l.length ≤ M → (∀ x ∈ l, ∀ d, okS d x) → Ev (fun k => spandrelref18_body.f k l (wrap64 (d + 1))) (bodyB r l)) (l : List Stmt) (hl : l.length ≤ M) (ho : ∀ x ∈ l, ∀ d, okS d x) (n : Nat) :
    ∀ i : Nat, i + n = l.length → Ev (fun k => spandrelref18_body.l0 k l d i) ((l.drop i).all (stmtB (bodyB r))) := by
  have hM : l.length ≤ 140737488351232 := hl
  induction n with
  | zero =>
    intro i hi
    refine Ev.step (f := fun _ => some _) (fun k => ?_) (Ev.now _)
    simp only [spandrelref18_body.l0]
    rw [if_neg (by omega), List.drop_of_length_le (by omega)]
    rfl
  | succ n ih =>
    intro i hi
    have hn := ih (i + 1) (by omega)
    have hlt : i < l.length := by omega
    have hg := List.getElem?_eq_getElem hlt
    have hd := List.drop_eq_getElem_cons hlt
    generalize l[i] = s at *
    have hs := List.mem_of_getElem? hg
    rw [hd, List.all_cons]
    have hw := wrap_nat i (by omega)
    exact stmt_ev (ho s hs) hlt hg (bodyB_nil r) (hb s.f3 (ho s hs 1).2.2.2.1 fun x hx d => okS_3 (ho s hs) hx d) (hb s.f4 (ho s hs 1).2.2.2.2.1 fun x hx d => okS_4 (ho s hs) hx d) (by rw [hw]; exact hn)
theorem body_f (r : Nat) : r ≤ 40 → ∀ l : List Stmt, l.length ≤ M → (∀ x ∈ l, ∀ d, okS d x) → Ev (fun k => spandrelref18_body.f k l (41 - (r : Int))) (bodyB r l) := by
  induction r with
  | zero =>
    intro _ l hl ho
    cases l with
    | nil =>
      refine Ev.step (f := fun k => spandrelref18_body.j0 k [] 41 false) (fun k => ?_) (Ev.step (f := fun k => spandrelref18_body.l0 k [] 41 0) (fun k => ?_) (Ev.step (f := fun _ => some true) (fun k => ?_) (Ev.now _)))
      · simp only [spandrelref18_body.f]; rfl
      · simp only [spandrelref18_body.j0]; rfl
      · simp only [spandrelref18_body.l0]; rfl
    | cons s l =>
      refine Ev.step (f := fun k => spandrelref18_body.j0 k (s :: l) 41 true) (fun k => ?_) (Ev.step (f := fun _ => some false) (fun k => ?_) (Ev.now _))
      · simp only [spandrelref18_body.f]
        rw [if_pos (by simp)]
        rfl
      · simp only [spandrelref18_body.j0]; rfl
  | succ r ih =>
    intro hr l hl ho
    have hb := ih (by omega)
    have e1 : (41 : Int) - ((r + 1 : Nat) : Int) = 40 - (r : Int) := by omega
    have e2 : wrap64 ((40 : Int) - (r : Int) + 1) = 41 - (r : Int) := by
      rw [wrap_in (by omega) (by omega)]; omega
    rw [e1]
    have hL := loop_ev r (40 - (r : Int)) (by rw [e2]; exact hb) l hl ho l.length 0 (by omega)
    refine Ev.step (f := fun k => spandrelref18_body.j0 k l (40 - (r : Int)) false) (fun k => ?_) (Ev.step (f := fun k => spandrelref18_body.l0 k l (40 - (r : Int)) 0) (fun k => ?_) hL)
    · simp only [spandrelref18_body.f]
      split
      · rw [decide_eq_false (by omega)]
      · rfl
    · simp only [spandrelref18_body.j0]; rfl
theorem shaped_ev (l : List Func) (hl : l.length ≤ M) (ho : ∀ x ∈ l, okF x) (n : Nat) : ∀ i : Nat, i + n = l.length → Ev (fun k => spandrelref18_Shaped.l0 k l i) ((l.drop i).all funcB && decide (l.length ≤ 4096)) := by
  have hM : l.length ≤ 140737488351232 := hl
  induction n with
  | zero =>
    intro i hi
    refine Ev.step (f := fun _ => some _) (fun k => ?_) (Ev.now _)
    simp only [spandrelref18_Shaped.l0]
    rw [if_neg (by omega), List.drop_of_length_le (by omega), List.all_nil, Bool.true_and]
    congr 1
    rw [decide_eq_decide]
    omega
  | succ n ih =>
    intro i hi
    have hn := ih (i + 1) (by omega)
    have hlt : i < l.length := by omega
    have hg := List.getElem?_eq_getElem hlt
    have hd := List.drop_eq_getElem_cons hlt
    generalize l[i] = f at *
    have hf := ho f (List.mem_of_getElem? hg)
    have hr := rd34 hg
    have hw := wrap_nat i (by omega)
    rw [hd, List.all_cons, Bool.and_assoc]
    unfold funcB at *
    refine Ev.step (f := fun k => (spandrelref18_Function.f k f.f0).bind fun t164 => (if t164 = true then ((spandrelref18_body.f k f.f1 1).bind fun t166 => (if t166 = true then (spandrelref18_Shaped.l0 k l ((i + 1 : Nat) : Int)) else (some false))) else (some false))) (fun k => ?_) ?_
    · simp only [spandrelref18_Shaped.l0]
      rw [if_pos (by omega), if_pos (by omega), hr, hw]
    · refine Ev.bind (f := fun k t164 => (if t164 = true then ((spandrelref18_body.f k f.f1 1).bind fun t166 => (if t166 = true then (spandrelref18_Shaped.l0 k l ((i + 1 : Nat) : Int)) else (some false))) else (some false))) (function_f f.f0 hf.1) ?_
      cases fnB f.f0 with
      | false => exact Ev.congr (f := fun _ => some _) (fun k => by rw [if_neg (by simp)]; rfl) (Ev.now _)
      | true =>
        refine Ev.congr (f := fun k => (spandrelref18_body.f k f.f1 1).bind fun t166 => (if t166 = true then (spandrelref18_Shaped.l0 k l ((i + 1 : Nat) : Int)) else (some false))) (fun k => by rw [if_pos rfl]) ?_
        refine Ev.bind (f := fun k t166 => (if t166 = true then (spandrelref18_Shaped.l0 k l ((i + 1 : Nat) : Int)) else (some false))) (body_f 40 (by omega) f.f1 hf.2.1 hf.2.2) ?_
        cases bodyB 40 f.f1 with
        | false => exact Ev.congr (f := fun _ => some _) (fun k => by rw [if_neg (by simp)]; rfl) (Ev.now _)
        | true => exact Ev.congr (f := fun k => spandrelref18_Shaped.l0 k l ((i + 1 : Nat) : Int)) (fun k => by rw [if_pos rfl]) hn
theorem shaped_f (l : List Func) (hl : l.length ≤ M) (ho : ∀ x ∈ l, okF x) : Ev (fun k => spandrelref18_Shaped.f k l) (shapedB l) := by
  have h := shaped_ev l hl ho l.length 0 (by omega)
  rw [List.drop_zero, Bool.and_comm] at h
  exact h
end Go.Proofs.Ytbjddomocggjmaa.Fc
