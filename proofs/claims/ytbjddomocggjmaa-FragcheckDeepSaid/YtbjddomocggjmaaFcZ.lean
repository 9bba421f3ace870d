/- FragcheckDeep: the walk of the law. -/
import Derived.Test.YtbjddomocggjmaaFcD
namespace Go.Proofs.Ytbjddomocggjmaa.Fc
open Go.RowKit Go.ChangeShapes Go.WideShapes Go.Proofs.Ytbjddomocggjmaa.Sep
open Go.Proofs.YtbjddomocggjmaaW.PrintWords

theorem stmtB_mono {b b' : List Stmt → Bool} (h : ∀ l, b l = true → b' l = true) (s : Stmt) (hs : stmtB b s = true) : stmtB b' s = true := by
  unfold stmtB at *
  by_cases h1 : s.f0 = 2
  · rw [if_pos h1] at *; exact hs
  rw [if_neg h1] at *
  by_cases h2 : mtB s.f1 = false
  · rw [if_pos h2] at hs; cases hs
  rw [if_neg h2] at *
  by_cases h3 : 4096 < s.f2.length
  · rw [if_pos h3] at hs; cases hs
  rw [if_neg h3] at *
  by_cases h4 : (s.f2.any fun a => !argB a) = true
  · rw [if_pos h4] at hs; cases hs
  rw [if_neg h4] at *
  by_cases h5 : s.f0 = 1
  · rw [if_pos h5] at *; exact hs
  rw [if_neg h5] at *
  by_cases h6 : s.f0 = 4
  · rw [if_pos h6, Bool.and_eq_true] at *; exact ⟨hs.1, h _ hs.2⟩
  rw [if_neg h6, Bool.and_eq_true, Bool.and_eq_true] at *
  exact ⟨hs.1, h _ hs.2.1, h _ hs.2.2⟩
theorem bodyB_mono : ∀ (n : Nat) (l : List Stmt), bodyB n l = true → bodyB (n + 1) l = true
  | 0, l, h => by
    cases l with
    | nil => rfl
    | cons a l => cases h
  | n + 1, l, h => by
    have e : bodyB (n + 1) l = l.all (stmtB (bodyB n)) := rfl
    have e2 : bodyB (n + 1 + 1) l = l.all (stmtB (bodyB (n + 1))) := rfl
    rw [e, List.all_eq_true] at h
    rw [e2, List.all_eq_true]
    exact fun x hx => stmtB_mono (bodyB_mono n) x (h x hx)
def sMore (b : List Stmt) : Stmt := ⟨3, ⟨#[77, 111, 114, 101]⟩, [], [], b⟩
def sNext (b : List Stmt) : Stmt := ⟨4, ⟨#[78, 101, 120, 116]⟩, [], [sMore b], []⟩
def two (b : List Stmt) : List Func := [⟨T0, b⟩, ⟨T1, []⟩]
theorem two_shaped (b : List Stmt) : shapedB (two b) = bodyB 40 b := by
  have e : shapedB (two b) = (fnB T0 && bodyB 40 b && ((fnB T1 && true) && true)) := rfl
  rw [e, fn_T0, fn_T1]
  simp
theorem next_body (b : List Stmt) : bodyB 40 [sNext b] = bodyB 38 b := by
  have m1 : mtB (⟨#[77, 111, 114, 101]⟩ : ByteArray) = true := by decide +kernel
  have m2 : mtB (⟨#[78, 101, 120, 116]⟩ : ByteArray) = true := by decide +kernel
  have e1 : stmtB (bodyB 38) (sMore b) = bodyB 38 b := by
    unfold stmtB
    rw [if_neg (show ¬ (sMore b).f0 = 2 from (by decide : ¬ (3 : Int) = 2)), if_neg (show ¬ mtB (sMore b).f1 = false by show ¬ mtB (⟨#[77, 111, 114, 101]⟩ : ByteArray) = false; rw [m1]; simp), if_neg (show ¬ 4096 < (sMore b).f2.length from (by decide : ¬ 4096 < 0)), if_neg (show ¬ ((sMore b).f2.any fun a => !argB a) = true from (by simp : ¬ false = true)), if_neg (show ¬ (sMore b).f0 = 1 from (by decide : ¬ (3 : Int) = 1)), if_neg (show ¬ (sMore b).f0 = 4 from (by decide : ¬ (3 : Int) = 4))]
    rfl
  have e2 : stmtB (bodyB 39) (sNext b) = bodyB 39 [sMore b] := by
    unfold stmtB
    rw [if_neg (show ¬ (sNext b).f0 = 2 from (by decide : ¬ (4 : Int) = 2)), if_neg (show ¬ mtB (sNext b).f1 = false by show ¬ mtB (⟨#[78, 101, 120, 116]⟩ : ByteArray) = false; rw [m2]; simp), if_neg (show ¬ 4096 < (sNext b).f2.length from (by decide : ¬ 4096 < 0)), if_neg (show ¬ ((sNext b).f2.any fun a => !argB a) = true from (by simp : ¬ false = true)), if_neg (show ¬ (sNext b).f0 = 1 from (by decide : ¬ (4 : Int) = 1)), if_pos (show (sNext b).f0 = 4 from rfl)]
    rfl
  have e3 : bodyB 40 [sNext b] = (stmtB (bodyB 39) (sNext b) && true) := rfl
  have e4 : bodyB 39 [sMore b] = (stmtB (bodyB 38) (sMore b) && true) := rfl
  rw [e3, e2, e4, e1, Bool.and_true, Bool.and_true]
theorem all_next (p : Stmt → Bool) (b : List Stmt) (h1 : p (sNext b) = true) (h2 : p (sMore b) = true) : allB p [sNext b] = allB p b := by
  have n : allB p [] = true := by rw [allB]
  have e : allB p [sMore b] = allB p b := by
    rw [allB_eq p [sMore b]]
    show ((p (sMore b) && (allB p [] && allB p b)) && true) = _
    rw [h2, n, Bool.true_and, Bool.true_and, Bool.and_true]
  rw [allB_eq p [sNext b]]
  show ((p (sNext b) && (allB p [sMore b] && allB p [])) && true) = _
  rw [h1, n, e, Bool.true_and, Bool.and_true, Bool.and_true]
theorem pat_next : patB 4 ⟨#[78, 101, 120, 116]⟩ = (⟨#[]⟩, true) := by
  unfold patB
  simp [Ppattern.fragcheck_pattern.f, Lib.toList_data]
theorem pat_more : patB 3 ⟨#[77, 111, 114, 101]⟩ = (⟨#[]⟩, true) := by
  unfold patB
  simp [Ppattern.fragcheck_pattern.f, Lib.toList_data]
theorem typed_next (b : List Stmt) : typedB (sNext b) = true := by
  unfold typedB
  rw [if_neg (show ¬ (sNext b).f0 = 2 from (by decide : ¬ (4 : Int) = 2)), show patB (sNext b).f0 (sNext b).f1 = (⟨#[]⟩, true) from pat_next]
  rfl
theorem typed_more (b : List Stmt) : typedB (sMore b) = true := by
  unfold typedB
  rw [if_neg (show ¬ (sMore b).f0 = 2 from (by decide : ¬ (3 : Int) = 2)), show patB (sMore b).f0 (sMore b).f1 = (⟨#[]⟩, true) from pat_more]
  rfl
theorem deep_law (b : List Stmt) : errI (two b) = errI (two [sNext b]) ∨ (errI (two b) ≠ 1 ∧ errI (two [sNext b]) = 1) := by
  have hs := two_shaped b
  have hs2 : shapedB (two [sNext b]) = bodyB 38 b := by rw [two_shaped, next_body]
  cases h : bodyB 38 b with
  | false =>
    have e : errI (two [sNext b]) = 1 := err_one (by rw [hs2, h])
    by_cases h1 : errI (two b) = 1
    · exact .inl (by rw [e, h1])
    · exact .inr ⟨h1, e⟩
  | true =>
    left
    rw [h] at hs2
    rw [bodyB_mono 39 b (bodyB_mono 38 b h)] at hs
    unfold errI
    rw [hs, hs2, if_pos rfl, if_pos rfl]
    have n1 : namesOf (two b) = [[116, 48], [116, 49]] := rfl
    have n2 : namesOf (two [sNext b]) = [[116, 48], [116, 49]] := rfl
    rw [n1, n2]
    have k : ∀ p : Stmt → Bool, p (sNext b) = true → p (sMore b) = true → ((two b).all fun f => allB p f.f1) = ((two [sNext b]).all fun f => allB p f.f1) := by
      intro p h1 h2
      show (allB p b && (allB p [] && true)) = (allB p [sNext b] && (allB p [] && true))
      rw [all_next p b h1 h2]
    rw [k (knownB [[116, 48], [116, 49]]) rfl rfl, k typedB (typed_next b) (typed_more b)]
theorem ok_next (b : List Stmt) (hb : b.length ≤ M) (h : ∀ x ∈ b, ∀ d, okS d x) : ∀ d, okS d (sNext b) := by
  have hm : ∀ d, okS d (sMore b)
    | 0 => trivial
    | d + 1 => ⟨i64_small 3 (by omega) (by omega), by show 4 ≤ M; decide, Nat.zero_le _, Nat.zero_le _, hb, no_mem, no_mem, fun x hx => h x hx d⟩
  intro d
  cases d with
  | zero => trivial
  | succ d =>
    refine ⟨i64_small 4 (by omega) (by omega), by show 4 ≤ M; decide, Nat.zero_le _, by show 1 ≤ M; decide, Nat.zero_le _, no_mem, fun x hx => ?_, no_mem⟩
    obtain rfl := List.mem_singleton.1 hx
    exact hm d
theorem two_ok (b : List Stmt) (hb : b.length ≤ M) (h : ∀ x ∈ b, ∀ d, okS d x) : ∀ f ∈ two b, okF f := by
  intro f hf
  rcases List.mem_cons.1 hf with rfl | hf
  · exact ⟨by show 2 ≤ M; decide, hb, h⟩
  · obtain rfl := List.mem_singleton.1 hf
    exact ⟨by show 2 ≤ M; decide, Nat.zero_le _, no_mem⟩
theorem ctwo {W : World} {g : Nat} (b : List Stmt) (A : Option Addr) (c : Nat) (hb : b.length ≤ c) (hA : CS W A b)
    (h : ∀ (i : Nat) (u : Value), ([.string T0, .slice A b.length c, .string T1, .slice none 0 0] : List Value)[i]? = some u → W.cell? ⟨g, i, none⟩ = some u) : CF W (some ⟨g, 0, none⟩) (two b) :=
  lit2 (cs := [.string T0, .slice A b.length c]) (ds := [.string T1, .slice none 0 0]) rfl rfl (PFragcheckChecks.k34_mk W ⟨T0, b⟩ hb hA) (PFragcheckChecks.k34_mk W ⟨T1, []⟩ (Nat.le_refl 0) nilC) h
theorem cnext {W : World} {g : Nat} (b : List Stmt) (A : Option Addr) (c : Nat) (hb : b.length ≤ c) (hA : CS W A b)
    (h1 : ∀ (i : Nat) (u : Value), ([.int .i64 3, .string ⟨#[77, 111, 114, 101]⟩, .slice none 0 0, .slice none 0 0, .slice A b.length c] : List Value)[i]? = some u → W.cell? ⟨g, i, none⟩ = some u)
    (h2 : ∀ (i : Nat) (u : Value), ([.int .i64 4, .string ⟨#[78, 101, 120, 116]⟩, .slice none 0 0, .slice (some ⟨g, 0, none⟩) 1 1, .slice none 0 0] : List Value)[i]? = some u → W.cell? ⟨g + 1, i, none⟩ = some u) : CS W (some ⟨g + 1, 0, none⟩) [sNext b] := by
  have k1 : CS W (some ⟨g, 0, none⟩) [sMore b] := lit1 rfl (PFragcheckChecks.k32_mk W (sMore b) (Nat.le_refl 0) nilC (Nat.le_refl 0) nilC hb hA) h1
  exact lit1 rfl (PFragcheckChecks.k32_mk W (sNext b) (Nat.le_refl 0) nilC (Nat.le_refl 1) k1 (Nat.le_refl 0) nilC) h2
set_option maxHeartbeats 4000000 in
set_option maxRecDepth 100000 in
theorem lawdeep_calls (A : Option Addr) (c : Nat) (b : List Stmt) (w : World) (hC : CS w A b) (hc : b.length ≤ c) (hl : b.length ≤ M) (ho : ∀ x ∈ b, ∀ d, okS d x) :
    Calls Try.prog 6 #[.slice A b.length c] w fun e w' => e = .returned (.bool true) ∧ Below w.heap.size w w' := by
  have H := Lib.hid (St.start w)
  have HA := Lib.hid (And.intro (fun (W : World) (Q : HP) (h : St w.heap.size w W Q) => Kd.C_below hC h.below) (And.intro hc (And.intro (two_ok b hl ho) (two_ok [sNext b] (by show 1 ≤ M; decide) fun x hx => by
    obtain rfl := List.mem_singleton.1 hx
    exact ok_next b hl ho))))
  have HL := Lib.hid (deep_law b)
  clear hC hc ho
  go_enter Try.func6, Try.ntmps6
  go_wp2_with fail
  refine (awake20_calls H.out).mono ?_
  rintro e w1 ⟨rfl, h1⟩
  generalize hg : w1.heap.size = g
  have H1 := Lib.hid (alloc_at (n := g) h1 (.cells #[.string T0, .slice A b.length c, .string T1, .slice none 0 0] 34) hg.symm)
  have HC := Lib.hid (ctwo b A c HA.out.2.1 (HA.out.1 _ _ H1.out) fun i u hu => H1.out.cell i (by simpa using hu))
  clear h1 H
  go_wp2_with fail
  refine (few_at _ 2 (two b) 500 H1.out HC.out (Nat.le_refl 2) (by show 2 ≤ M; decide) HA.out.2.2.1).mono ?_
  rintro e w2 ⟨r, rfl, h2⟩
  have H2 := Lib.hid h2
  clear h2 H1 HC
  cases r with
  | false =>
    go_wp2
    go_ret
    exact ⟨rfl, H2.out.below⟩
  | true =>
    have HC := Lib.hid (ctwo b A c HA.out.2.1 (HA.out.1 _ _ H2.out) fun i u hu => H2.out.cell i (by simpa using hu))
    go_wp2_with fail
    refine (check_at _ 2 (two b) H2.out HC.out HA.out.2.2.1).mono ?_
    rintro e w3 ⟨rfl, h3⟩
    generalize hg3 : w3.heap.size = g3
    have H3 := Lib.hid (alloc_at (n := g3) h3 (.cells #[.int .i64 3, .string ⟨#[77, 111, 114, 101]⟩, .slice none 0 0, .slice none 0 0, .slice A b.length c] 32) hg3.symm)
    have H4 := Lib.hid (alloc_at (n := g3 + 1) H3.out (.cells #[.int .i64 4, .string ⟨#[78, 101, 120, 116]⟩, .slice none 0 0, .slice (some ⟨g3, 0, none⟩) 1 1, .slice none 0 0] 32) (by simp [hg3]))
    have c1 := H4.out.drop.two.cell 1 rfl
    have f1 := H4.out.drop.two.free 1 (.inr (Nat.le_refl _))
    have c2 := H4.out.three.cell 1 rfl
    have f2 := H4.out.three.free 1 (.inr (Nat.le_refl _))
    have H5 := Lib.hid (H4.out.three.set 1 (.slice (some ⟨g3 + 1, 0, none⟩) 1 1))
    have HC5 := Lib.hid (ctwo [sNext b] (some ⟨g3 + 1, 0, none⟩) 1 (Nat.le_refl 1) (cnext b A c HA.out.2.1 (HA.out.1 _ _ H5.out) (fun i u hu => H5.out.drop.drop.cell i (by simpa using hu)) (fun i u hu => H5.out.drop.cell i (by simpa using hu))) fun i u hu => H5.out.cell i (by simpa using hu))
    clear h3 H2 H3 HC
    go_wp2_with fail
    refine (check_at _ 2 (two [sNext b]) H5.out HC5.out HA.out.2.2.2).mono ?_
    rintro e w4 ⟨rfl, h4⟩
    have H6 := Lib.hid h4
    clear h4 H4 H5 HC5 c1 f1 c2 f2
    generalize errI (two b) = e1 at *
    generalize errI (two [sNext b]) = e2 at *
    by_cases q0 : e1 = e2
    · have q1 : (e1 == e2) = true := by rw [q0]; exact beq_self_eq_true _
      have q3 : decide (e1 = e2) = true := decide_eq_true q0
      go_wp2
      go_ret
      exact ⟨rfl, H6.out.below⟩
    · obtain ⟨q4, q5⟩ := HL.out.resolve_left q0
      have q1 : (e1 == e2) = false := beq_eq_false_iff_ne.2 q0
      have q3 : decide (e1 = e2) = false := decide_eq_false q0
      have q6 : (e1 != 1) = true := bne_iff_ne.2 q4
      subst q5
      go_wp2
      go_ret
      exact ⟨rfl, H6.out.below⟩
end Go.Proofs.Ytbjddomocggjmaa.Fc
