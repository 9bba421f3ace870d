/- frag.stmt, body, Shaped; fragcheck.all, Find: walked. -/
import Derived.Test.YtbjddomocggjmaaFcI
import Derived.Test.YtbjddomocggjmaaFcWW
/- frag.stmt, body, Shaped, walked. -/
namespace Go.Proofs.Ytbjddomocggjmaa.Fc
open Go.RowKit Go.ChangeShapes Go.WideShapes Go.Proofs.Ytbjddomocggjmaa.Sep
open Go.Proofs.YtbjddomocggjmaaW.PrintWords
variable {w0 w : World} {R : HP}

def stmtB (b : List Stmt → Bool) (s : Stmt) : Bool :=
  if s.f0 = 2 then fnB s.f1 && decide (s.f2.length + s.f3.length + s.f4.length = 0)
  else if mtB s.f1 = false then false
  else if 4096 < s.f2.length then false
  else if (s.f2.any fun a => !argB a) = true then false
  else if s.f0 = 1 then decide (s.f3.length + s.f4.length = 0)
  else if s.f0 = 4 then decide (s.f4.length = 0) && b s.f3
  else decide (s.f0 = 3) && (b s.f3 && b s.f4)
def bodyB : Nat → List Stmt → Bool
  | 0, l => l.isEmpty
  | n + 1, l => l.all (stmtB (bodyB n))

theorem bad_arg_tells (l : List Arg) : Tells PFragcheckChecks.k73 w0 R 108 #[] l (fun a => !argB a) := by
  intro W a h _ cs hK
  obtain rfl := PFragcheckChecks.k73_open hK
  have H := Lib.hid (h.alloc (.cells #[.bool a.f0, .int .i64 a.f1, .string a.f2] 73))
  clear h hK
  show Calls Try.prog 108 #[.agg #[.bool a.f0, .int .i64 a.f1, .string a.f2]] W _
  go_enter Try.func108, Try.ntmps108
  go_wp2_with (go_at_call 109; refine (arg_calls a H.out).mono ?_; rintro e w1 ⟨rfl, h1⟩; have H1 := Lib.hid h1; clear h1)
  go_ret
  exact ⟨rfl, H1.out.drop⟩
set_option maxHeartbeats 3000000 in
theorem stmt_calls (n : Nat) (hn : n ≤ 100) (b : List Stmt → Bool)
    (hb : ∀ (W : World) (Q : HP) (A : Option Addr) (c : Nat) (l : List Stmt), S w0 W Q → CS w0 A l → (∀ x ∈ l, ∀ d, okS d x) → Calls Try.prog 42 #[.slice A l.length c, .int .i64 n] W fun e w' => e = .returned (.bool (b l)) ∧ S w0 w' Q)
    (s : Stmt) (cs : List Value) (hK : PFragcheckChecks.k32.K w0 s cs) (ho : ∀ d, okS d s) (h : S w0 w R) :
    Calls Try.prog 68 #[.agg ⟨cs⟩, .int .i64 ((n : Int) + 1)] w fun e w' => e = .returned (.bool (stmtB b s)) ∧ S w0 w' R := by
  have eg : ∀ args w, (callFunc 108 args).run Try.prog w = .ok (.enter 108 args) w := enters_of Try.func108 (by kernel_rfl) rfl
  obtain ⟨A2, c2, A3, c3, A4, c4, rfl, g2, k2, g3, k3, g4, k4⟩ := PFragcheckChecks.k32_open hK
  have H := Lib.hid (h.alloc (.cells #[.int .i64 s.f0, .string s.f1, .slice A2 s.f2.length c2, .slice A3 s.f3.length c3, .slice A4 s.f4.length c4] 32))
  have HC := Lib.hid (And.intro k2 (And.intro k3 k4))
  obtain ⟨o0, o1, o2, o3, o4, o5, -, -⟩ := ho 1
  have HO := Lib.hid (And.intro (fun x (hx : x ∈ s.f3) d => (ho (d + 1)).2.2.2.2.2.2.1 x hx) (fun x (hx : x ∈ s.f4) d => (ho (d + 1)).2.2.2.2.2.2.2 x hx))
  have HB := Lib.hid hb
  have HN := Lib.hid (And.intro o1 hn)
  simp only [M] at o2 o3 o4
  have v1 : IntKind.i64.wrap ((s.f2.length : Int) + (s.f3.length : Int)) = (s.f2.length : Int) + (s.f3.length : Int) := IntWalk.i64_in _ (by omega)
  have v2 : IntKind.i64.wrap ((s.f2.length : Int) + (s.f3.length : Int) + (s.f4.length : Int)) = (s.f2.length : Int) + (s.f3.length : Int) + (s.f4.length : Int) := IntWalk.i64_in _ (by omega)
  have v3 : IntKind.i64.wrap ((s.f3.length : Int) + (s.f4.length : Int)) = (s.f3.length : Int) + (s.f4.length : Int) := IntWalk.i64_in _ (by omega)
  have v4 : IntKind.i64.wrap ((n : Int) + 1 - 1) = (n : Int) := by rw [Int.add_sub_cancel]; exact IntWalk.i64_in _ (by omega)
  have v5 : IntKind.i64.wrap (n : Int) = (n : Int) := IntWalk.i64_in _ (by omega)
  have HV := Lib.hid (And.intro v1 (And.intro v2 (And.intro v3 (And.intro v4 v5))))
  clear v1 v2 v3 v4 v5 h hK g2 k2 g3 k3 g4 k4 ho hb o0 o1 hn
  show Calls Try.prog 68 #[.agg #[.int .i64 s.f0, .string s.f1, .slice A2 s.f2.length c2, .slice A3 s.f3.length c3, .slice A4 s.f4.length c4], .int .i64 ((n : Int) + 1)] w _
  unfold stmtB
  by_cases q0 : s.f0 = 2
  · rw [if_pos q0]
    have q0b : (s.f0 == 2) = true := beq_iff_eq.mpr q0
    clear q0
    have HF := Lib.hid (function_calls s.f1 H.out HN.out.1)
    by_cases q1 : s.f2.length + s.f3.length + s.f4.length = 0
    · rw [decide_eq_true q1, Bool.and_true]
      have q1b : (((s.f2.length : Int) + (s.f3.length : Int) + (s.f4.length : Int)) == 0) = true := beq_iff_eq.mpr (by omega)
      clear q1 o2 o3 o4
      have v1 := HV.out.1
      have v2 := HV.out.2.1
      go_enter Try.func68, Try.ntmps68
      go_wp2_with fail
      refine HF.out.mono ?_
      rintro e w1 ⟨rfl, h1⟩
      have H1 := Lib.hid h1
      have d0 := h1.cell 0 rfl; have d1 := h1.cell 1 rfl; have d2 := h1.cell 2 rfl; have d3 := h1.cell 3 rfl; have d4 := h1.cell 4 rfl
      clear h1
      cases hfb : fnB s.f1 with
      | true =>
        have HFB := Lib.hid hfb
        clear hfb
        go_wp2
        go_ret
        exact ⟨by rw [HFB.out]; rfl, H1.out.drop⟩
      | false =>
        have HFB := Lib.hid hfb
        clear hfb
        go_wp2
        go_ret
        exact ⟨by rw [HFB.out]; rfl, H1.out.drop⟩
    · rw [decide_eq_false q1, Bool.and_false]
      have q1b : (((s.f2.length : Int) + (s.f3.length : Int) + (s.f4.length : Int)) == 0) = false := beq_eq_false_iff_ne.mpr (by omega)
      clear q1 o2 o3 o4
      have v1 := HV.out.1
      have v2 := HV.out.2.1
      go_enter Try.func68, Try.ntmps68
      go_wp2_with fail
      refine HF.out.mono ?_
      rintro e w1 ⟨rfl, h1⟩
      have H1 := Lib.hid h1
      have d0 := h1.cell 0 rfl; have d1 := h1.cell 1 rfl; have d2 := h1.cell 2 rfl; have d3 := h1.cell 3 rfl; have d4 := h1.cell 4 rfl
      clear h1
      generalize fnB s.f1 = fb
      cases fb with
      | true =>
        go_wp2
        go_ret
        exact ⟨rfl, H1.out.drop⟩
      | false =>
        go_wp2
        go_ret
        exact ⟨rfl, H1.out.drop⟩
  rw [if_neg q0]
  have q0b : (s.f0 == 2) = false := beq_eq_false_iff_ne.mpr q0
  clear q0
  have HF := Lib.hid (method_calls s.f1 H.out HN.out.1)
  cases q1 : mtB s.f1 with
  | false =>
    rw [q1] at HF
    rw [if_pos rfl]
    clear q1 o2 o3 o4
    go_enter Try.func68, Try.ntmps68
    go_wp2_with fail
    refine HF.out.mono ?_
    rintro e w1 ⟨rfl, h1⟩
    have H1 := Lib.hid h1
    have d0 := h1.cell 0 rfl; have d1 := h1.cell 1 rfl; have d2 := h1.cell 2 rfl; have d3 := h1.cell 3 rfl; have d4 := h1.cell 4 rfl
    clear h1
    go_wp2
    go_ret
    exact ⟨rfl, H1.out.drop⟩
  | true =>
    rw [q1] at HF
    rw [if_neg (by simp)]
    clear q1
    by_cases q2 : 4096 < s.f2.length
    · rw [if_pos q2]
      have q2b : decide ((4096 : Int) < (s.f2.length : Int)) = true := decide_eq_true (by omega)
      clear q2 o2 o3 o4
      go_enter Try.func68, Try.ntmps68
      go_wp2_with fail
      refine HF.out.mono ?_
      rintro e w1 ⟨rfl, h1⟩
      have H1 := Lib.hid h1
      have d0 := h1.cell 0 rfl; have d1 := h1.cell 1 rfl; have d2 := h1.cell 2 rfl; have d3 := h1.cell 3 rfl; have d4 := h1.cell 4 rfl
      clear h1
      go_wp2
      go_ret
      exact ⟨rfl, H1.out.drop⟩
    rw [if_neg q2]
    have q2b : decide ((4096 : Int) < (s.f2.length : Int)) = false := decide_eq_false (by omega)
    clear q2 o2
    cases q3 : (s.f2.any fun a => !argB a) with
    | true =>
      rw [if_pos rfl]
      clear o3 o4
      go_enter Try.func68, Try.ntmps68
      go_wp2_with fail
      refine HF.out.mono ?_
      rintro e w1 ⟨rfl, h1⟩
      have H1 := Lib.hid h1
      have d0 := h1.cell 0 rfl; have d1 := h1.cell 1 rfl; have d2 := h1.cell 2 rfl; have d3 := h1.cell 3 rfl; have d4 := h1.cell 4 rfl
      clear h1
      go_wp2_with fail
      refine (contains_args _ _ eg (fun a => !argB a) A2 c2 s.f2 HC.out.1 H1.out (bad_arg_tells _)).mono ?_
      rintro e w2 ⟨rfl, h1⟩
      have H2 := Lib.hid h1
      clear d0 d1 d2 d3 d4
      have d0 := h1.cell 0 rfl; have d1 := h1.cell 1 rfl; have d2 := h1.cell 2 rfl; have d3 := h1.cell 3 rfl; have d4 := h1.cell 4 rfl
      clear h1
      rw [q3]
      go_wp2
      go_ret
      exact ⟨rfl, H2.out.drop⟩
    | false =>
      rw [if_neg (by simp)]
      by_cases q4 : s.f0 = 1
      · rw [if_pos q4]
        have q4b : (s.f0 == 1) = true := beq_iff_eq.mpr q4
        clear q4
        have q5 : decide (s.f3.length + s.f4.length = 0) = (((s.f3.length : Int) + (s.f4.length : Int)) == 0) := by
          rw [Bool.eq_iff_iff, decide_eq_true_iff, beq_iff_eq]; omega
        rw [q5]
        clear q5 o3 o4
        have v3 := HV.out.2.2.1
        go_enter Try.func68, Try.ntmps68
        go_wp2_with fail
        refine HF.out.mono ?_
        rintro e w1 ⟨rfl, h1⟩
        have H1 := Lib.hid h1
        have d0 := h1.cell 0 rfl; have d1 := h1.cell 1 rfl; have d2 := h1.cell 2 rfl; have d3 := h1.cell 3 rfl; have d4 := h1.cell 4 rfl
        clear h1
        go_wp2_with fail
        refine (contains_args _ _ eg (fun a => !argB a) A2 c2 s.f2 HC.out.1 H1.out (bad_arg_tells _)).mono ?_
        rintro e w2 ⟨rfl, h1⟩
        have H2 := Lib.hid h1
        clear d0 d1 d2 d3 d4
        have d0 := h1.cell 0 rfl; have d1 := h1.cell 1 rfl; have d2 := h1.cell 2 rfl; have d3 := h1.cell 3 rfl; have d4 := h1.cell 4 rfl
        clear h1
        rw [q3]
        go_wp2
        go_ret
        exact ⟨rfl, H2.out.drop⟩
      rw [if_neg q4]
      have q4b : (s.f0 == 1) = false := beq_eq_false_iff_ne.mpr q4
      clear q4
      by_cases q5 : s.f0 = 4
      · rw [if_pos q5]
        have q5b : (s.f0 == 4) = true := beq_iff_eq.mpr q5
        clear q5
        by_cases q6 : s.f4.length = 0
        · rw [decide_eq_true q6, Bool.true_and]
          have q6b : ((s.f4.length : Int) == 0) = true := beq_iff_eq.mpr (by omega)
          clear q6 o3 o4
          have v4 := HV.out.2.2.2.1
          have v5 := HV.out.2.2.2.2
          go_enter Try.func68, Try.ntmps68
          go_wp2_with fail
          refine HF.out.mono ?_
          rintro e w1 ⟨rfl, h1⟩
          have H1 := Lib.hid h1
          have d0 := h1.cell 0 rfl; have d1 := h1.cell 1 rfl; have d2 := h1.cell 2 rfl; have d3 := h1.cell 3 rfl; have d4 := h1.cell 4 rfl
          clear h1
          go_wp2_with fail
          refine (contains_args _ _ eg (fun a => !argB a) A2 c2 s.f2 HC.out.1 H1.out (bad_arg_tells _)).mono ?_
          rintro e w2 ⟨rfl, h1⟩
          have H2 := Lib.hid h1
          clear d0 d1 d2 d3 d4
          have d0 := h1.cell 0 rfl; have d1 := h1.cell 1 rfl; have d2 := h1.cell 2 rfl; have d3 := h1.cell 3 rfl; have d4 := h1.cell 4 rfl
          clear h1
          rw [q3]
          go_wp2_with fail
          refine (HB.out _ _ A3 c3 s.f3 H2.out HC.out.2.1 HO.out.1).mono ?_
          rintro e w3 ⟨rfl, h1⟩
          have H3 := Lib.hid h1
          clear h1
          go_wp2
          go_ret
          exact ⟨rfl, H3.out.drop⟩
        · rw [decide_eq_false q6, Bool.false_and]
          have q6b : ((s.f4.length : Int) == 0) = false := beq_eq_false_iff_ne.mpr (by omega)
          clear q6 o3 o4
          go_enter Try.func68, Try.ntmps68
          go_wp2_with fail
          refine HF.out.mono ?_
          rintro e w1 ⟨rfl, h1⟩
          have H1 := Lib.hid h1
          have d0 := h1.cell 0 rfl; have d1 := h1.cell 1 rfl; have d2 := h1.cell 2 rfl; have d3 := h1.cell 3 rfl; have d4 := h1.cell 4 rfl
          clear h1
          go_wp2_with fail
          refine (contains_args _ _ eg (fun a => !argB a) A2 c2 s.f2 HC.out.1 H1.out (bad_arg_tells _)).mono ?_
          rintro e w2 ⟨rfl, h1⟩
          have H2 := Lib.hid h1
          clear d0 d1 d2 d3 d4
          have d0 := h1.cell 0 rfl; have d1 := h1.cell 1 rfl; have d2 := h1.cell 2 rfl; have d3 := h1.cell 3 rfl; have d4 := h1.cell 4 rfl
          clear h1
          rw [q3]
          go_wp2
          go_ret
          exact ⟨rfl, H2.out.drop⟩
      rw [if_neg q5]
      have q5b : (s.f0 == 4) = false := beq_eq_false_iff_ne.mpr q5
      clear q5
      by_cases q6 : s.f0 = 3
      · rw [decide_eq_true q6, Bool.true_and]
        have q6b : (s.f0 == 3) = true := beq_iff_eq.mpr q6
        clear q6 o3 o4
        have v4 := HV.out.2.2.2.1
        have v5 := HV.out.2.2.2.2
        cases q7 : b s.f3 with
        | true =>
          go_enter Try.func68, Try.ntmps68
          go_wp2_with fail
          refine HF.out.mono ?_
          rintro e w1 ⟨rfl, h1⟩
          have H1 := Lib.hid h1
          have d0 := h1.cell 0 rfl; have d1 := h1.cell 1 rfl; have d2 := h1.cell 2 rfl; have d3 := h1.cell 3 rfl; have d4 := h1.cell 4 rfl
          clear h1
          go_wp2_with fail
          refine (contains_args _ _ eg (fun a => !argB a) A2 c2 s.f2 HC.out.1 H1.out (bad_arg_tells _)).mono ?_
          rintro e w2 ⟨rfl, h1⟩
          have H2 := Lib.hid h1
          clear d0 d1 d2 d3 d4
          have d0 := h1.cell 0 rfl; have d1 := h1.cell 1 rfl; have d2 := h1.cell 2 rfl; have d3 := h1.cell 3 rfl; have d4 := h1.cell 4 rfl
          clear h1
          rw [q3]
          go_wp2_with fail
          refine (HB.out _ _ A3 c3 s.f3 H2.out HC.out.2.1 HO.out.1).mono ?_
          rintro e w3 ⟨rfl, h1⟩
          have H3 := Lib.hid h1
          clear d0 d1 d2 d3 d4
          have d0 := h1.cell 0 rfl; have d1 := h1.cell 1 rfl; have d2 := h1.cell 2 rfl; have d3 := h1.cell 3 rfl; have d4 := h1.cell 4 rfl
          clear h1
          rw [q7]
          go_wp2_with fail
          refine (HB.out _ _ A4 c4 s.f4 H3.out HC.out.2.2 HO.out.2).mono ?_
          rintro e w4 ⟨rfl, h1⟩
          have H4 := Lib.hid h1
          clear h1
          go_wp2
          go_ret
          exact ⟨rfl, H4.out.drop⟩
        | false =>
          go_enter Try.func68, Try.ntmps68
          go_wp2_with fail
          refine HF.out.mono ?_
          rintro e w1 ⟨rfl, h1⟩
          have H1 := Lib.hid h1
          have d0 := h1.cell 0 rfl; have d1 := h1.cell 1 rfl; have d2 := h1.cell 2 rfl; have d3 := h1.cell 3 rfl; have d4 := h1.cell 4 rfl
          clear h1
          go_wp2_with fail
          refine (contains_args _ _ eg (fun a => !argB a) A2 c2 s.f2 HC.out.1 H1.out (bad_arg_tells _)).mono ?_
          rintro e w2 ⟨rfl, h1⟩
          have H2 := Lib.hid h1
          clear d0 d1 d2 d3 d4
          have d0 := h1.cell 0 rfl; have d1 := h1.cell 1 rfl; have d2 := h1.cell 2 rfl; have d3 := h1.cell 3 rfl; have d4 := h1.cell 4 rfl
          clear h1
          rw [q3]
          go_wp2_with fail
          refine (HB.out _ _ A3 c3 s.f3 H2.out HC.out.2.1 HO.out.1).mono ?_
          rintro e w3 ⟨rfl, h1⟩
          have H3 := Lib.hid h1
          clear h1
          rw [q7]
          go_wp2
          go_ret
          exact ⟨rfl, H3.out.drop⟩
      · rw [decide_eq_false q6, Bool.false_and]
        have q6b : (s.f0 == 3) = false := beq_eq_false_iff_ne.mpr q6
        clear q6 o3 o4
        go_enter Try.func68, Try.ntmps68
        go_wp2_with fail
        refine HF.out.mono ?_
        rintro e w1 ⟨rfl, h1⟩
        have H1 := Lib.hid h1
        have d0 := h1.cell 0 rfl; have d1 := h1.cell 1 rfl; have d2 := h1.cell 2 rfl; have d3 := h1.cell 3 rfl; have d4 := h1.cell 4 rfl
        clear h1
        go_wp2_with fail
        refine (contains_args _ _ eg (fun a => !argB a) A2 c2 s.f2 HC.out.1 H1.out (bad_arg_tells _)).mono ?_
        rintro e w2 ⟨rfl, h1⟩
        have H2 := Lib.hid h1
        clear d0 d1 d2 d3 d4
        have d0 := h1.cell 0 rfl; have d1 := h1.cell 1 rfl; have d2 := h1.cell 2 rfl; have d3 := h1.cell 3 rfl; have d4 := h1.cell 4 rfl
        clear h1
        rw [q3]
        go_wp2
        go_ret
        exact ⟨rfl, H2.out.drop⟩
end Go.Proofs.Ytbjddomocggjmaa.Fc

/- frag.body, Shaped, walked. -/
namespace Go.Proofs.Ytbjddomocggjmaa.Fc
open Go.RowKit Go.ChangeShapes Go.WideShapes Go.Proofs.Ytbjddomocggjmaa.Sep
open Go.Proofs.YtbjddomocggjmaaW.PrintWords
variable {w0 w : World} {R : HP}

theorem all_any {α : Type} (p : α → Bool) (l : List α) : l.all p = !(l.any fun x => !p x) := by
  induction l with
  | nil => rfl
  | cons x l ih => simp [ih]
set_option maxHeartbeats 1000000 in
theorem bad_stmt_tells (n : Nat) (hn : n ≤ 100) (b : List Stmt → Bool)
    (hb : ∀ (W : World) (Q : HP) (A : Option Addr) (c : Nat) (l : List Stmt), S w0 W Q → CS w0 A l → (∀ x ∈ l, ∀ d, okS d x) → Calls Try.prog 42 #[.slice A l.length c, .int .i64 n] W fun e w' => e = .returned (.bool (b l)) ∧ S w0 w' Q)
    (g : Nat) (l : List Stmt) (ho : ∀ x ∈ l, ∀ d, okS d x) : Tells PFragcheckChecks.k32 w0 (Blk g (.cells #[.int .i64 ((n : Int) + 1)] 3) • R) 67 #[.pointer (some ⟨g, 0, none⟩)] l (fun s => !stmtB b s) := by
  intro W s h hs cs hK
  have HS : Hid (∀ (w : World) (Q : HP), S w0 w Q → Calls Try.prog 68 #[.agg ⟨cs⟩, .int .i64 ((n : Int) + 1)] w fun e w' => e = .returned (.bool (stmtB b s)) ∧ S w0 w' Q) := Lib.hid fun w Q h => stmt_calls n hn b hb s cs hK (ho s hs) h
  obtain ⟨A2, c2, A3, c3, A4, c4, rfl, -⟩ := PFragcheckChecks.k32_open hK
  have H := Lib.hid (h.alloc (.cells #[.int .i64 s.f0, .string s.f1, .slice A2 s.f2.length c2, .slice A3 s.f3.length c3, .slice A4 s.f4.length c4] 32))
  have d0 := H.out.two.cell 0 rfl
  clear h hK ho hb
  show Calls Try.prog 67 #[.agg #[.int .i64 s.f0, .string s.f1, .slice A2 s.f2.length c2, .slice A3 s.f3.length c3, .slice A4 s.f4.length c4], .pointer (some ⟨g, 0, none⟩)] W _
  go_enter Try.func67, Try.ntmps67
  go_wp2_with (go_at_call 68; refine (HS.out _ _ H.out).mono ?_; rintro e w1 ⟨rfl, h1⟩; have H1 := Lib.hid h1; clear h1)
  go_ret
  exact ⟨rfl, H1.out.drop⟩
set_option maxHeartbeats 1000000 in
theorem body_calls (n : Nat) (hn : n ≤ 100) : ∀ (W : World) (Q : HP) (A : Option Addr) (c : Nat) (l : List Stmt), S w0 W Q → CS w0 A l → (∀ x ∈ l, ∀ d, okS d x) → Calls Try.prog 42 #[.slice A l.length c, .int .i64 n] W fun e w' => e = .returned (.bool (bodyB n l)) ∧ S w0 w' Q := by
  have eg : ∀ args w, (callFunc 67 args).run Try.prog w = .ok (.enter 67 args) w := enters_of Try.func67 (by kernel_rfl) rfl
  induction n with
  | zero =>
    intro W Q A c l h hC ho
    have H := Lib.hid ((h.alloc (.cells #[.int .i64 0] 3)).drop)
    clear h hC ho
    show Calls Try.prog 42 #[.slice A l.length c, .int .i64 0] W _
    by_cases hl : l.length = 0
    · have e : bodyB 0 l = true := by
        have : l = [] := List.length_eq_zero_iff.1 hl
        subst this; rfl
      rw [e]
      have hb : ((l.length : Int) == 0) = true := beq_iff_eq.mpr (by omega)
      clear e hl
      go_enter Try.func42, Try.ntmps42
      go_wp2
      go_ret
      exact ⟨rfl, H.out⟩
    · have e : bodyB 0 l = false := by
        cases l with
        | nil => simp at hl
        | cons x l => rfl
      rw [e]
      have hb : ((l.length : Int) == 0) = false := beq_eq_false_iff_ne.mpr (by omega)
      clear e hl
      go_enter Try.func42, Try.ntmps42
      go_wp2
      go_ret
      exact ⟨rfl, H.out⟩
  | succ n ih =>
    intro W Q A c l h hC ho
    have HI := Lib.hid (ih (by omega))
    have HO := Lib.hid (And.intro hC (And.intro ho hn))
    have H := Lib.hid (h.alloc (.cells #[.int .i64 ((n : Int) + 1)] 3))
    have ec : ((n + 1 : Nat) : Int) = (n : Int) + 1 := rfl
    rw [ec]
    have hg : decide (0 < (n : Int) + 1) = true := decide_eq_true (by omega)
    clear h hC ho ih hn ec
    by_cases hl : l.length = 0
    · have e : bodyB (n + 1) l = true := by
        have : l = [] := List.length_eq_zero_iff.1 hl
        subst this; rfl
      rw [e]
      have hb : ((l.length : Int) == 0) = true := beq_iff_eq.mpr (by omega)
      clear e hl
      go_enter Try.func42, Try.ntmps42
      go_wp2
      go_ret
      exact ⟨rfl, H.out.drop⟩
    · have hb : ((l.length : Int) == 0) = false := beq_eq_false_iff_ne.mpr (by omega)
      have e : bodyB (n + 1) l = !(l.any fun s => !stmtB (bodyB n) s) := all_any _ l
      rw [e]
      clear e hl
      go_enter Try.func42, Try.ntmps42
      go_wp2_with fail
      refine (contains_stmts _ _ eg (fun s => !stmtB (bodyB n) s) A c l HO.out.1 H.out (bad_stmt_tells n (Nat.le_of_succ_le HO.out.2.2) (bodyB n) HI.out _ l HO.out.2.1)).mono ?_
      rintro e w1 ⟨rfl, h1⟩
      have H1 := Lib.hid h1
      clear h1
      go_wp2
      go_ret
      exact ⟨rfl, H1.out.drop⟩

def funcB (f : Func) : Bool := fnB f.f0 && bodyB 40 f.f1
def shapedB (l : List Func) : Bool := decide (l.length ≤ 4096) && l.all funcB
theorem body40_calls (A : Option Addr) (c : Nat) (l : List Stmt) (h : S w0 w R) (hC : CS w0 A l) (ho : ∀ x ∈ l, ∀ d, okS d x) :
    Calls Try.prog 42 #[.slice A l.length c, .int .i64 40] w fun e w' => e = .returned (.bool (bodyB 40 l)) ∧ S w0 w' R := body_calls 40 (by omega) w R A c l h hC ho
set_option maxHeartbeats 1000000 in
theorem bad_func_tells (l : List Func) (ho : ∀ x ∈ l, okF x) : Tells PFragcheckChecks.k34 w0 R 40 #[] l (fun f => !funcB f) := by
  intro W f h hf cs hK
  obtain ⟨A1, c1, rfl, hc, hC⟩ := PFragcheckChecks.k34_open hK
  have H := Lib.hid (h.alloc (.cells #[.string f.f0, .slice A1 f.f1.length c1] 34))
  have HC := Lib.hid (And.intro hC (ho f hf))
  have HF := Lib.hid (function_calls f.f0 H.out (HC.out.2.1))
  clear h hK hC hc ho
  show Calls Try.prog 40 #[.agg #[.string f.f0, .slice A1 f.f1.length c1]] W fun e w' => e = .returned (.bool (!(fnB f.f0 && bodyB 40 f.f1))) ∧ S w0 w' R
  cases hfb : fnB f.f0 with
  | true =>
    rw [hfb] at HF
    clear hfb
    go_enter Try.func40, Try.ntmps40
    go_wp2_with fail
    refine HF.out.mono ?_
    rintro e w1 ⟨rfl, h1⟩
    have H1 := Lib.hid h1
    have d0 := h1.cell 0 rfl
    have d1 := h1.cell 1 rfl
    clear h1
    go_wp2_with fail
    refine (body40_calls A1 c1 f.f1 H1.out HC.out.1 HC.out.2.2.2).mono ?_
    rintro e w1 ⟨rfl, h1⟩
    have H2 := Lib.hid h1
    clear h1
    go_wp2
    go_ret
    exact ⟨rfl, H2.out.drop⟩
  | false =>
    rw [hfb] at HF
    clear hfb
    go_enter Try.func40, Try.ntmps40
    go_wp2_with fail
    refine HF.out.mono ?_
    rintro e w1 ⟨rfl, h1⟩
    have H1 := Lib.hid h1
    clear h1
    go_wp2
    go_ret
    exact ⟨rfl, H1.out.drop⟩
set_option maxHeartbeats 1000000 in
theorem shaped_calls (A : Option Addr) (c : Nat) (l : List Func) (h : S w0 w R) (hC : CF w0 A l) (ho : ∀ x ∈ l, okF x) :
    Calls Try.prog 16 #[.slice A l.length c] w fun e w' => e = .returned (.bool (shapedB l)) ∧ S w0 w' R := by
  have eg : ∀ args w, (callFunc 40 args).run Try.prog w = .ok (.enter 40 args) w := enters_of Try.func40 (by kernel_rfl) rfl
  have H := Lib.hid (And.intro h (And.intro hC ho))
  clear h hC ho
  unfold shapedB
  rw [all_any]
  by_cases hl : l.length ≤ 4096
  · rw [decide_eq_true hl, Bool.true_and]
    have hb : decide ((l.length : Int) ≤ 4096) = true := decide_eq_true (by omega)
    clear hl
    go_enter Try.func16, Try.ntmps16
    go_wp2_with fail
    refine (contains_funcs _ _ eg (fun f => !funcB f) A c l H.out.2.1 H.out.1 (bad_func_tells l H.out.2.2)).mono ?_
    rintro e w1 ⟨rfl, h1⟩
    have H1 := Lib.hid h1
    clear h1
    go_wp2
    go_ret
    exact ⟨rfl, H1.out⟩
  · rw [decide_eq_false hl, Bool.false_and]
    have hb : decide ((l.length : Int) ≤ 4096) = false := decide_eq_false (by omega)
    clear hl
    go_enter Try.func16, Try.ntmps16
    go_wp2
    go_ret
    exact ⟨rfl, H.out.1⟩
end Go.Proofs.Ytbjddomocggjmaa.Fc

/- fragcheck.all, Find, walked. -/
namespace Go.Proofs.Ytbjddomocggjmaa.Fc
open Go.RowKit Go.ChangeShapes Go.WideShapes Go.Proofs.Ytbjddomocggjmaa.Sep
open Go.Proofs.YtbjddomocggjmaaW.PrintWords
variable {w0 w : World} {R : HP}

def allB (p : Stmt → Bool) : List Stmt → Bool
  | [] => true
  | s :: r => p s && allB p s.f3 && allB p s.f4 && allB p r
termination_by l => SizeOf.sizeOf l
decreasing_by
  all_goals (cases s; simp; omega)
theorem allB_eq (p : Stmt → Bool) : ∀ l, allB p l = l.all fun s => p s && (allB p s.f3 && allB p s.f4)
  | [] => by rw [allB]; rfl
  | s :: r => by rw [allB, List.all_cons, allB_eq p r, Bool.and_assoc (p s)]
def badB (p : Stmt → Bool) (s : Stmt) : Bool := !(p s && (allB p s.f3 && allB p s.f4))
theorem allB_any (p : Stmt → Bool) (l : List Stmt) : allB p l = !(l.any (badB p)) := by
  rw [allB_eq, all_any]
  rfl
theorem size3 {s : Stmt} {l : List Stmt} (h : s ∈ l) : SizeOf.sizeOf s.f3 < SizeOf.sizeOf l := by
  have := List.sizeOf_lt_of_mem h
  cases s
  simp at this ⊢
  omega
theorem size4 {s : Stmt} {l : List Stmt} (h : s ∈ l) : SizeOf.sizeOf s.f4 < SizeOf.sizeOf l := by
  have := List.sizeOf_lt_of_mem h
  cases s
  simp at this ⊢
  omega
theorem okS_3 {s x : Stmt} (ho : ∀ d, okS d s) (h : x ∈ s.f3) (d : Nat) : okS d x := (ho (d + 1)).2.2.2.2.2.2.1 x h
theorem okS_4 {s x : Stmt} (ho : ∀ d, okS d s) (h : x ∈ s.f4) (d : Nat) : okS d x := (ho (d + 1)).2.2.2.2.2.2.2 x h
/-- A function value that tells of a statement, whatever lies before R. -/
def OkFn (w0 : World) (R : HP) (g : Nat) (lb : Array Value) (p : Stmt → Bool) : Prop :=
  ∀ (W : World) (Q : HP) (s : Stmt) (cs : List Value), S w0 W (Q • R) → PFragcheckChecks.k32.K w0 s cs → (∀ d, okS d s) → Calls Try.prog g (#[.agg ⟨cs⟩] ++ lb) W fun e w' => e = .returned (.bool (p s)) ∧ S w0 w' (Q • R)
set_option maxHeartbeats 3000000 in
theorem all_tells (g : Nat) (lb : Array Value) (eg : ∀ args w, (callFunc g args).run Try.prog w = .ok (.enter g args) w) (p : Stmt → Bool) (hok : OkFn w0 R g lb p) (l : List Stmt) (ho : ∀ x ∈ l, ∀ d, okS d x)
    (ih : ∀ l' : List Stmt, SizeOf.sizeOf l' < SizeOf.sizeOf l → ∀ (W : World) (Q : HP) (A : Option Addr) (c : Nat), S w0 W (Q • R) → CS w0 A l' → (∀ x ∈ l', ∀ d, okS d x) → Calls Try.prog 32 #[.slice A l'.length c, .func (.func g) #[] lb] W fun e w' => e = .returned (.bool (allB p l')) ∧ S w0 w' (Q • R))
    (b : Nat) (Q : HP) : Tells PFragcheckChecks.k32 w0 (Blk b (.cells #[.func (.func g) #[] lb] 76) • (Q • R)) 58 #[.pointer (some ⟨b, 0, none⟩)] l (badB p) := by
  intro W s h hs cs hK
  have HK := Lib.hid (And.intro hok (And.intro hK (ho s hs)))
  have H3 := Lib.hid (And.intro (ih s.f3 (size3 hs)) (And.intro (ih s.f4 (size4 hs)) (And.intro (fun x hx => okS_3 (x := x) (ho s hs) hx) (fun x hx => okS_4 (x := x) (ho s hs) hx))))
  obtain ⟨A2, c2, A3, c3, A4, c4, rfl, g2, k2, g3, k3, g4, k4⟩ := PFragcheckChecks.k32_open hK
  have HC := Lib.hid (And.intro k3 k4)
  have H := Lib.hid (h.alloc (.cells #[.int .i64 s.f0, .string s.f1, .slice A2 s.f2.length c2, .slice A3 s.f3.length c3, .slice A4 s.f4.length c4] 32))
  clear h hK ho ih hok g2 k2 g3 k3 g4 k4 hs
  have HE := Lib.hid eg
  clear eg
  have e0 := H.out.two.cell 0 rfl
  show Calls Try.prog 58 #[.agg #[.int .i64 s.f0, .string s.f1, .slice A2 s.f2.length c2, .slice A3 s.f3.length c3, .slice A4 s.f4.length c4], .pointer (some ⟨b, 0, none⟩)] W fun e w' => e = .returned (.bool (!(p s && (allB p s.f3 && allB p s.f4)))) ∧ S w0 w' (Blk b (.cells #[.func (.func g) #[] lb] 76) • (Q • R))
  have HP0 := Lib.hid (HK.out.1 _ _ s _ (H.out.assoc'.assoc') HK.out.2.1 HK.out.2.2)
  have eg := HE.out
  cases q1 : p s with
  | false =>
    rw [q1] at HP0
    clear q1
    go_enter Try.func58, Try.ntmps58
    go_wp2_with (go_at_fn g; refine HP0.out.mono ?_; rintro e w' ⟨rfl, h1⟩; have H1 := Lib.hid h1.assoc.assoc; clear h1)
    go_ret
    exact ⟨rfl, H1.out.drop⟩
  | true =>
    rw [q1] at HP0
    clear q1
    cases q2 : allB p s.f3 with
    | false =>
      go_enter Try.func58, Try.ntmps58
      go_wp2_with (first | (go_at_fn g; refine HP0.out.mono ?_; rintro e w' ⟨rfl, h1⟩; have H1 := Lib.hid h1.assoc.assoc; clear h1; clear e0; have e0 := H1.out.two.cell 0 rfl; have d0 := H1.out.cell 0 rfl; have d1 := H1.out.cell 1 rfl; have d2 := H1.out.cell 2 rfl; have d3 := H1.out.cell 3 rfl; have d4 := H1.out.cell 4 rfl) | (go_at_call 32; refine (H3.out.1 _ _ A3 c3 H1.out.assoc'.assoc' HC.out.1 H3.out.2.2.1).mono ?_; rw [q2]; rintro e w' ⟨rfl, h1⟩; have H2 := Lib.hid h1.assoc.assoc; clear h1))
      go_ret
      exact ⟨rfl, H2.out.drop⟩
    | true =>
      go_enter Try.func58, Try.ntmps58
      go_wp2_with (first | (go_at_fn g; refine HP0.out.mono ?_; rintro e w' ⟨rfl, h1⟩; have H1 := Lib.hid h1.assoc.assoc; clear h1; clear e0; have e0 := H1.out.two.cell 0 rfl; have d0 := H1.out.cell 0 rfl; have d1 := H1.out.cell 1 rfl; have d2 := H1.out.cell 2 rfl; have d3 := H1.out.cell 3 rfl; have d4 := H1.out.cell 4 rfl) | fail)
      refine (H3.out.1 _ _ A3 c3 H1.out.assoc'.assoc' HC.out.1 H3.out.2.2.1).mono ?_
      rw [q2]
      rintro e w' ⟨rfl, h1⟩
      have H2 := Lib.hid h1.assoc.assoc
      clear h1 e0 d0 d1 d2 d3 d4
      have e0 := H2.out.two.cell 0 rfl
      have d0 := H2.out.cell 0 rfl
      have d1 := H2.out.cell 1 rfl
      have d2 := H2.out.cell 2 rfl
      have d3 := H2.out.cell 3 rfl
      have d4 := H2.out.cell 4 rfl
      go_wp2_with fail
      refine (H3.out.2.1 _ _ A4 c4 H2.out.assoc'.assoc' HC.out.2 H3.out.2.2.2).mono ?_
      rintro e w' ⟨rfl, h1⟩
      have H4 := Lib.hid h1.assoc.assoc
      clear h1
      go_wp2
      go_ret
      exact ⟨rfl, H4.out.drop⟩
set_option maxHeartbeats 1000000 in
theorem all_calls (g : Nat) (lb : Array Value) (eg : ∀ args w, (callFunc g args).run Try.prog w = .ok (.enter g args) w) (p : Stmt → Bool) (hok : OkFn w0 R g lb p) (n : Nat) :
    ∀ l : List Stmt, SizeOf.sizeOf l < n → ∀ (W : World) (Q : HP) (A : Option Addr) (c : Nat), S w0 W (Q • R) → CS w0 A l → (∀ x ∈ l, ∀ d, okS d x) → Calls Try.prog 32 #[.slice A l.length c, .func (.func g) #[] lb] W fun e w' => e = .returned (.bool (allB p l)) ∧ S w0 w' (Q • R) := by
  have ea : ∀ args w, (callFunc 58 args).run Try.prog w = .ok (.enter 58 args) w := enters_of Try.func58 (by kernel_rfl) rfl
  induction n with
  | zero => intro l h; omega
  | succ n ih =>
    intro l hl W Q A c h hC ho
    have HT := Lib.hid (fun (b : Nat) (Q : HP) => all_tells g lb eg p hok l ho (fun l' hl' => ih l' (by omega)) b Q)
    have H := Lib.hid (And.intro (h.alloc (.cells #[.func (.func g) #[] lb] 76)) hC)
    clear h hC ho hl hok ih eg
    rw [allB_any]
    go_enter Try.func32, Try.ntmps32
    go_wp2_with fail
    refine (contains_stmts _ _ ea (badB p) A c l H.out.2 H.out.1 (HT.out _ _)).mono ?_
    rintro e w1 ⟨rfl, h1⟩
    have H1 := Lib.hid h1
    clear h1
    go_wp2
    go_ret
    exact ⟨rfl, H1.out.drop⟩

/-! ### Find -/
def nameB (nm : ByteArray) (f : Func) : Bool := f.f0.toList == nm.toList
theorem name_tells (b : Nat) (nm : ByteArray) (l : List Func) : Tells PFragcheckChecks.k34 w0 (Blk b (.cells #[.string nm] 9) • R) 39 #[.pointer (some ⟨b, 0, none⟩)] l (nameB nm) := by
  intro W f h hf cs hK
  obtain ⟨A1, c1, rfl, hc, hC⟩ := PFragcheckChecks.k34_open hK
  have H := Lib.hid (h.alloc (.cells #[.string f.f0, .slice A1 f.f1.length c1] 34))
  have e0 := H.out.two.cell 0 rfl
  clear h hK hC hc
  show Calls Try.prog 39 #[.agg #[.string f.f0, .slice A1 f.f1.length c1], .pointer (some ⟨b, 0, none⟩)] W _
  go_enter Try.func39, Try.ntmps39
  go_wp2
  go_ret
  exact ⟨rfl, H.out.drop⟩
theorem find_calls (A : Option Addr) (c : Nat) (l : List Func) (nm : ByteArray) (h : S w0 w R) (hC : CF w0 A l) :
    Calls Try.prog 14 #[.slice A l.length c, .string nm] w fun e w' => ∃ i : Int, e = .returned (.int .i64 i) ∧ S w0 w' R ∧ Place (nameB nm) l i := by
  have eg : ∀ args w, (callFunc 39 args).run Try.prog w = .ok (.enter 39 args) w := enters_of Try.func39 (by kernel_rfl) rfl
  have H := Lib.hid (And.intro (h.alloc (.cells #[.string nm] 9)) hC)
  clear h hC
  go_enter Try.func14, Try.ntmps14
  go_wp2_with fail
  refine (index_funcs _ _ eg (nameB nm) A c l H.out.2 H.out.1 (name_tells _ nm l)).mono ?_
  rintro e w1 ⟨i, rfl, h1, h2⟩
  have H1 := Lib.hid (And.intro h1 h2)
  clear h1 h2
  go_wp2
  go_ret
  exact ⟨i, rfl, H1.out.1.drop, H1.out.2⟩
end Go.Proofs.Ytbjddomocggjmaa.Fc
