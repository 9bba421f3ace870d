/- shape.bare, con, Con: walked. -/
import Derived.Test.YtbjddomocggjmaaKH
namespace Go.Proofs.Ytbjddomocggjmaa.Sc
open Go.RowKit Go.ChangeShapes Go.WideShapes Go.Proofs.Ytbjddomocggjmaa.Sep
open Go.Proofs.YtbjddomocggjmaaW.PrintWords
variable {B : Nat} {w0 w : World} {R : HP}
theorem alloc_at {n : Nat} (h : St B w0 w R) (o : Obj) (hn : n = w.heap.size) : St B w0 (w.alloc o) (Blk n o • R) := by
  subst hn
  exact h.alloc o
def least : Int := -9223372036854775808
def bareB (c : Con) : Bool := decide (c.f1 = 0) && decide (c.f2 = 0) && !c.f3 && !c.f4
def kidsB (b : Con → Bool) (c : Con) : Bool := bareB c && !(c.f5.any fun x => decide (x.f0 = 0) || !b x)
def spanB (c : Con) : Bool := decide (c.f5.length = 0) && decide (c.f1 ≠ least) && decide (c.f2 ≠ least) && (!c.f3 || decide (c.f1 = 0)) && (!c.f4 || decide (c.f2 = 0))
def conS (b : Con → Bool) (c : Con) : Bool :=
  if c.f0 = 0 then bareB c && decide (c.f5.length = 0)
  else if c.f0 = 1 then spanB c
  else if c.f0 = 4 then decide (c.f5.length = 2) && kidsB b c
  else if c.f0 = 2 ∨ c.f0 = 3 then decide (2 ≤ c.f5.length) && kidsB b c
  else false
def conB : Nat → Con → Bool
  | 0, _ => false
  | n + 1, c => conS (conB n) c
theorem bare_calls (c : Con) (A : Option Addr) (p : Nat) (h : St B w0 w R) :
    Calls Try.prog 147 #[.agg #[.int .i64 c.f0, .int .i64 c.f1, .int .i64 c.f2, .bool c.f3, .bool c.f4, .slice A c.f5.length p]] w fun e w' => e = .returned (.bool (bareB c)) ∧ St B w0 w' R := by
  obtain ⟨k, lo, hi, lw, hh, l⟩ := c
  show Calls Try.prog 147 #[.agg #[.int .i64 k, .int .i64 lo, .int .i64 hi, .bool lw, .bool hh, .slice A l.length p]] w fun e w' => e = .returned (.bool (decide (lo = 0) && decide (hi = 0) && !lw && !hh)) ∧ St B w0 w' R
  have H := Lib.hid (h.alloc (.cells #[.int .i64 k, .int .i64 lo, .int .i64 hi, .bool lw, .bool hh, .slice A l.length p] 50))
  have b1 := H.out.cell 1 rfl
  have b2 := H.out.cell 2 rfl
  have b3 := H.out.cell 3 rfl
  have b4 := H.out.cell 4 rfl
  clear h
  by_cases q1 : lo = 0
  · have p1 : (lo == 0) = true := beq_iff_eq.2 q1
    rw [decide_eq_true q1, Bool.true_and]
    clear q1
    by_cases q2 : hi = 0
    · have p2 : (hi == 0) = true := beq_iff_eq.2 q2
      rw [decide_eq_true q2, Bool.true_and]
      clear q2
      cases lw with
      | false =>
        go_enter Try.func147, Try.ntmps147
        go_wp2
        go_ret
        exact ⟨rfl, H.out.drop⟩
      | true =>
        go_enter Try.func147, Try.ntmps147
        go_wp2
        go_ret
        exact ⟨rfl, H.out.drop⟩
    · have p2 : (hi == 0) = false := beq_eq_false_iff_ne.2 q2
      rw [decide_eq_false q2]
      clear q2
      go_enter Try.func147, Try.ntmps147
      go_wp2
      go_ret
      exact ⟨rfl, H.out.drop⟩
  · have p1 : (lo == 0) = false := beq_eq_false_iff_ne.2 q1
    rw [decide_eq_false q1]
    clear q1
    go_enter Try.func147, Try.ntmps147
    go_wp2
    go_ret
    exact ⟨rfl, H.out.drop⟩
/-- What con says, at one depth. -/
def ConAt (w0 : World) (n : Nat) : Prop := ∀ (W : World) (Q : HP) (c : Con) (A : Option Addr) (p : Nat), S w0 W Q → c.f5.length ≤ p → kCon.C w0 A c.f5.length c.f5 →
  Calls Try.prog 141 #[.agg #[.int .i64 c.f0, .int .i64 c.f1, .int .i64 c.f2, .bool c.f3, .bool c.f4, .slice A c.f5.length p], .int .i64 n] W fun e w' => e = .returned (.bool (conB n c)) ∧ S w0 w' Q
theorem bad_con_tells (n : Nat) (hn : n ≤ 100) (ih : ConAt w0 n) (l : List Con) (b : Nat) :
    Tells kCon w0 (Blk b (.cells #[.int .i64 ((n : Int) + 1)] 3) • R) 149 #[.pointer (some ⟨b, 0, none⟩)] l (fun x => decide (x.f0 = 0) || !conB n x) := by
  intro W c h _ cs hK
  obtain ⟨A, p, rfl, hp, hC⟩ := PScopeTwice.k50_open hK
  have H := Lib.hid (h.alloc (.cells #[.int .i64 c.f0, .int .i64 c.f1, .int .i64 c.f2, .bool c.f3, .bool c.f4, .slice A c.f5.length p] 50))
  have b0 := H.out.cell 0 rfl
  have b1 := H.out.cell 1 rfl
  have b2 := H.out.cell 2 rfl
  have b3 := H.out.cell 3 rfl
  have b4 := H.out.cell 4 rfl
  have b5 := H.out.cell 5 rfl
  have e0 := H.out.two.cell 0 rfl
  have HC := Lib.hid (ih _ _ c A p H.out hp hC)
  have w1 : IntKind.i64.wrap ((n : Int) + 1 - 1) = (n : Int) := by rw [show (n : Int) + 1 - 1 = n by omega]; exact IntWalk.i64_in _ (by omega)
  have w2 : ((n : Int) + 1 - 1) = (n : Int) := by omega
  show Calls Try.prog 149 #[.agg #[.int .i64 c.f0, .int .i64 c.f1, .int .i64 c.f2, .bool c.f3, .bool c.f4, .slice A c.f5.length p], .pointer (some ⟨b, 0, none⟩)] W fun e w' => e = .returned (.bool (decide (c.f0 = 0) || !conB n c)) ∧ S w0 w' (Blk b (.cells #[.int .i64 ((n : Int) + 1)] 3) • R)
  clear h hK hp hC ih
  by_cases q : c.f0 = 0
  · have p1 : (c.f0 == 0) = true := beq_iff_eq.2 q
    rw [decide_eq_true q, Bool.true_or]
    clear q
    go_enter Try.func149, Try.ntmps149
    go_wp2
    go_ret
    exact ⟨rfl, H.out.drop⟩
  · have p1 : (c.f0 == 0) = false := beq_eq_false_iff_ne.2 q
    rw [decide_eq_false q, Bool.false_or]
    clear q
    go_enter Try.func149, Try.ntmps149
    go_wp2_with fail
    refine HC.out.mono ?_
    rintro e w2 ⟨rfl, h2⟩
    have H2 := Lib.hid h2
    clear h2 HC
    go_wp2
    go_ret
    exact ⟨rfl, H2.out.drop⟩
theorem con_zero : ConAt w0 0 := by
  intro W Q c A p h hp hC
  have H := Lib.hid h
  have e : conB 0 c = false := rfl
  rw [e]
  clear h hp hC e
  show Calls Try.prog 141 #[.agg #[.int .i64 c.f0, .int .i64 c.f1, .int .i64 c.f2, .bool c.f3, .bool c.f4, .slice A c.f5.length p], .int .i64 0] W _
  go_enter Try.func141, Try.ntmps141
  have H2 := Lib.hid ((H.out.alloc (.cells #[.int .i64 c.f0, .int .i64 c.f1, .int .i64 c.f2, .bool c.f3, .bool c.f4, .slice A c.f5.length p] 50)).alloc (.cells #[.int .i64 0] 3))
  have e0 := H2.out.cell 0 rfl
  go_wp2
  go_ret
  exact ⟨rfl, H2.out.drop.drop⟩
theorem con_S (b : Con → Bool) (k lo hi : Int) (lw hh : Bool) (l : List Con) : conS b ⟨k, lo, hi, lw, hh, l⟩ =
    if k = 0 then bareB ⟨k, lo, hi, lw, hh, l⟩ && decide (l.length = 0) else if k = 1 then spanB ⟨k, lo, hi, lw, hh, l⟩ else if k = 4 then decide (l.length = 2) && kidsB b ⟨k, lo, hi, lw, hh, l⟩ else if k = 2 ∨ k = 3 then decide (2 ≤ l.length) && kidsB b ⟨k, lo, hi, lw, hh, l⟩ else false := rfl
set_option maxHeartbeats 20000000 in
set_option maxRecDepth 100000 in
theorem con_all (n : Nat) (hn : n ≤ 100) (lo hi : Int) (lw hh : Bool) (l : List Con) (A : Option Addr) (p : Nat) (h : S w0 w R) (hp : l.length ≤ p) (hC : kCon.C w0 A l.length l) (ih : ConAt w0 n) :
    Calls Try.prog 141 #[.agg #[.int .i64 0, .int .i64 lo, .int .i64 hi, .bool lw, .bool hh, .slice A l.length p], .int .i64 ((n : Int) + 1)] w fun e w' => e = .returned (.bool (bareB ⟨0, lo, hi, lw, hh, l⟩ && decide (l.length = 0))) ∧ S w0 w' R := by
  have eg : ∀ args w, (callFunc 149 args).run Try.prog w = .ok (.enter 149 args) w := enters_of Try.func149 (by kernel_rfl) rfl
  have HG := Lib.hid eg
  have hl : l.length ≤ 9223372036854775807 := hC.2.1
  have HC := Lib.hid (And.intro hp (And.intro hC ih))
  clear eg
  have H := Lib.hid (alloc_at (n := w.heap.size + 1) (h.alloc (.cells #[.int .i64 0, .int .i64 lo, .int .i64 hi, .bool lw, .bool hh, .slice A l.length p] 50)) (.cells #[.int .i64 ((n : Int) + 1)] 3) (by simp))
  have b0 := H.out.two.cell 0 rfl
  have b1 := H.out.two.cell 1 rfl
  have b2 := H.out.two.cell 2 rfl
  have b3 := H.out.two.cell 3 rfl
  have b4 := H.out.two.cell 4 rfl
  have b5 := H.out.two.cell 5 rfl
  have e0 := H.out.cell 0 rfl
  have n0 : (((n : Int) + 1) == 0) = false := beq_eq_false_iff_ne.2 (by omega)
  have n1 : decide ((n : Int) + 1 = 0) = false := decide_eq_false (by omega)
  clear h hp hC ih
  have HB := Lib.hid (bare_calls ⟨0, lo, hi, lw, hh, l⟩ A p H.out)
  generalize bareB ⟨0, lo, hi, lw, hh, l⟩ = bb at *
  by_cases hz : l.length = 0
  · have z1 : ((l.length : Int) == 0) = true := beq_iff_eq.2 (by omega)
    rw [decide_eq_true hz]
    clear hz
    cases bb
    all_goals
      go_enter Try.func141, Try.ntmps141
      go_wp2_with fail
      refine HB.out.mono ?_
      rintro e w2 ⟨rfl, h2⟩
      have H2 := Lib.hid h2
      have b5 := h2.two.cell 5 rfl
      clear h2 b0 b1 b2 b3 b4 e0
      go_wp2
      go_ret
      exact ⟨rfl, H2.out.drop.drop⟩
  · have z1 : ((l.length : Int) == 0) = false := beq_eq_false_iff_ne.2 (by omega)
    rw [decide_eq_false hz, Bool.and_false]
    clear hz
    cases bb
    all_goals
      go_enter Try.func141, Try.ntmps141
      go_wp2_with fail
      refine HB.out.mono ?_
      rintro e w2 ⟨rfl, h2⟩
      have H2 := Lib.hid h2
      have b5 := h2.two.cell 5 rfl
      clear h2 b0 b1 b2 b3 b4 e0
      go_wp2
      go_ret
      exact ⟨rfl, H2.out.drop.drop⟩
set_option maxHeartbeats 20000000 in
set_option maxRecDepth 100000 in
theorem con_span (n : Nat) (hn : n ≤ 100) (lo hi : Int) (lw hh : Bool) (l : List Con) (A : Option Addr) (p : Nat) (h : S w0 w R) (hp : l.length ≤ p) (hC : kCon.C w0 A l.length l) (ih : ConAt w0 n) :
    Calls Try.prog 141 #[.agg #[.int .i64 1, .int .i64 lo, .int .i64 hi, .bool lw, .bool hh, .slice A l.length p], .int .i64 ((n : Int) + 1)] w fun e w' => e = .returned (.bool (decide (l.length = 0) && decide (lo ≠ least) && decide (hi ≠ least) && (!lw || decide (lo = 0)) && (!hh || decide (hi = 0)))) ∧ S w0 w' R := by
  have eg : ∀ args w, (callFunc 149 args).run Try.prog w = .ok (.enter 149 args) w := enters_of Try.func149 (by kernel_rfl) rfl
  have HG := Lib.hid eg
  have hl : l.length ≤ 9223372036854775807 := hC.2.1
  have HC := Lib.hid (And.intro hp (And.intro hC ih))
  clear eg
  have H := Lib.hid (alloc_at (n := w.heap.size + 1) (h.alloc (.cells #[.int .i64 1, .int .i64 lo, .int .i64 hi, .bool lw, .bool hh, .slice A l.length p] 50)) (.cells #[.int .i64 ((n : Int) + 1)] 3) (by simp))
  have b0 := H.out.two.cell 0 rfl
  have b1 := H.out.two.cell 1 rfl
  have b2 := H.out.two.cell 2 rfl
  have b3 := H.out.two.cell 3 rfl
  have b4 := H.out.two.cell 4 rfl
  have b5 := H.out.two.cell 5 rfl
  have e0 := H.out.cell 0 rfl
  have n0 : (((n : Int) + 1) == 0) = false := beq_eq_false_iff_ne.2 (by omega)
  have n1 : decide ((n : Int) + 1 = 0) = false := decide_eq_false (by omega)
  clear h hp hC ih
  by_cases hz : l.length = 0
  case neg =>
    have z1 : ((l.length : Int) == 0) = false := beq_eq_false_iff_ne.2 (by omega)
    rw [decide_eq_false hz]
    clear hz
    go_enter Try.func141, Try.ntmps141
    go_wp2
    go_ret
    exact ⟨rfl, H.out.drop.drop⟩
  have z1 : ((l.length : Int) == 0) = true := beq_iff_eq.2 (by omega)
  rw [decide_eq_true hz, Bool.true_and]
  clear hz
  by_cases h1 : lo = least
  · have y1 : (lo != -9223372036854775808) = false := by rw [h1]; rfl
    rw [decide_eq_false (show ¬ lo ≠ least from fun hh => hh h1)]
    clear h1
    go_enter Try.func141, Try.ntmps141
    go_wp2
    go_ret
    exact ⟨rfl, H.out.drop.drop⟩
  have y1 : (lo != -9223372036854775808) = true := bne_iff_ne.2 h1
  rw [decide_eq_true (show lo ≠ least from h1), Bool.true_and]
  clear h1
  by_cases h2 : hi = least
  · have y2 : (hi != -9223372036854775808) = false := by rw [h2]; rfl
    rw [decide_eq_false (show ¬ hi ≠ least from fun hh => hh h2)]
    clear h2
    go_enter Try.func141, Try.ntmps141
    go_wp2
    go_ret
    exact ⟨rfl, H.out.drop.drop⟩
  have y2 : (hi != -9223372036854775808) = true := bne_iff_ne.2 h2
  rw [decide_eq_true (show hi ≠ least from h2), Bool.true_and]
  clear h2
  by_cases h3 : lo = 0
  · have x1 : (lo == 0) = true := beq_iff_eq.2 h3
    rw [decide_eq_true h3, Bool.or_true, Bool.true_and]
    clear h3
    by_cases h4 : hi = 0
    · have x2 : (hi == 0) = true := beq_iff_eq.2 h4
      rw [decide_eq_true h4, Bool.or_true]
      clear h4
      cases lw <;> cases hh
      all_goals
        go_enter Try.func141, Try.ntmps141
        go_wp2
        go_ret
        exact ⟨rfl, H.out.drop.drop⟩
    · have x2 : (hi == 0) = false := beq_eq_false_iff_ne.2 h4
      rw [decide_eq_false h4, Bool.or_false]
      clear h4
      cases lw <;> cases hh
      all_goals
        go_enter Try.func141, Try.ntmps141
        go_wp2
        go_ret
        exact ⟨rfl, H.out.drop.drop⟩
  · have x1 : (lo == 0) = false := beq_eq_false_iff_ne.2 h3
    rw [decide_eq_false h3, Bool.or_false]
    clear h3
    by_cases h4 : hi = 0
    · have x2 : (hi == 0) = true := beq_iff_eq.2 h4
      rw [decide_eq_true h4, Bool.or_true]
      clear h4
      cases lw <;> cases hh
      all_goals
        go_enter Try.func141, Try.ntmps141
        go_wp2
        go_ret
        exact ⟨rfl, H.out.drop.drop⟩
    · have x2 : (hi == 0) = false := beq_eq_false_iff_ne.2 h4
      rw [decide_eq_false h4, Bool.or_false]
      clear h4
      cases lw <;> cases hh
      all_goals
        go_enter Try.func141, Try.ntmps141
        go_wp2
        go_ret
        exact ⟨rfl, H.out.drop.drop⟩
set_option maxHeartbeats 20000000 in
set_option maxRecDepth 100000 in
theorem con_four (n : Nat) (hn : n ≤ 100) (k : Int) (lo hi : Int) (lw hh : Bool) (l : List Con) (A : Option Addr) (p : Nat) (k4 : k = 4) (h : S w0 w R) (hp : l.length ≤ p) (hC : kCon.C w0 A l.length l) (ih : ConAt w0 n) :
    Calls Try.prog 141 #[.agg #[.int .i64 k, .int .i64 lo, .int .i64 hi, .bool lw, .bool hh, .slice A l.length p], .int .i64 ((n : Int) + 1)] w fun e w' => e = .returned (.bool (decide (l.length = 2) && kidsB (conB n) ⟨k, lo, hi, lw, hh, l⟩)) ∧ S w0 w' R := by
  have eg : ∀ args w, (callFunc 149 args).run Try.prog w = .ok (.enter 149 args) w := enters_of Try.func149 (by kernel_rfl) rfl
  have HG := Lib.hid eg
  have hl : l.length ≤ 9223372036854775807 := hC.2.1
  have HC := Lib.hid (And.intro hp (And.intro hC ih))
  clear eg
  have H := Lib.hid (alloc_at (n := w.heap.size + 1) (h.alloc (.cells #[.int .i64 k, .int .i64 lo, .int .i64 hi, .bool lw, .bool hh, .slice A l.length p] 50)) (.cells #[.int .i64 ((n : Int) + 1)] 3) (by simp))
  have b0 := H.out.two.cell 0 rfl
  have b1 := H.out.two.cell 1 rfl
  have b2 := H.out.two.cell 2 rfl
  have b3 := H.out.two.cell 3 rfl
  have b4 := H.out.two.cell 4 rfl
  have b5 := H.out.two.cell 5 rfl
  have e0 := H.out.cell 0 rfl
  have n0 : (((n : Int) + 1) == 0) = false := beq_eq_false_iff_ne.2 (by omega)
  have n1 : decide ((n : Int) + 1 = 0) = false := decide_eq_false (by omega)
  clear h hp hC ih
  have m0 : (k == 0) = false := beq_eq_false_iff_ne.2 (by omega)
  have m1 : (k == 1) = false := beq_eq_false_iff_ne.2 (by omega)
  have m4 : (k == 4) = true := beq_iff_eq.2 k4
  clear k4
  by_cases hz : l.length = 2
  case neg =>
    have z1 : ((l.length : Int) != 2) = true := bne_iff_ne.2 (by omega)
    rw [decide_eq_false hz]
    clear hz
    go_enter Try.func141, Try.ntmps141
    go_wp2
    go_ret
    exact ⟨rfl, H.out.drop.drop⟩
  have z1 : ((l.length : Int) != 2) = false := bne_eq_false_iff_eq.2 (by omega)
  rw [decide_eq_true hz, Bool.true_and]
  clear hz
  go_enter Try.func141, Try.ntmps141
  go_wp2_with fail
  refine (bare_calls ⟨k, lo, hi, lw, hh, l⟩ A p H.out).mono ?_
  rintro e w2 ⟨rfl, h2⟩
  cases hb : bareB ⟨k, lo, hi, lw, hh, l⟩ with
  | false =>
    have H2 := Lib.hid h2
    have HE : Hid (kidsB (conB n) ⟨k, lo, hi, lw, hh, l⟩ = false) := Lib.hid (by unfold kidsB; rw [hb]; rfl)
    clear h2 hb b0 b1 b2 b3 b4 b5 e0
    go_wp2
    go_ret
    exact ⟨by rw [HE.out]; rfl, H2.out.drop.drop⟩
  | true =>
    have H2 := Lib.hid h2
    have HE : Hid (kidsB (conB n) ⟨k, lo, hi, lw, hh, l⟩ = !(l.any fun x => decide (x.f0 = 0) || !conB n x)) := Lib.hid (by unfold kidsB; rw [hb]; rfl)
    have HK := Lib.hid (contains_cons _ _ HG.out (fun x => decide (x.f0 = 0) || !conB n x) A p l HC.out.2.1 h2 (bad_con_tells n hn HC.out.2.2 l (w.heap.size + 1)))
    clear hb b0 b1 b2 b3 b4 b5 e0
    have b5 := H2.out.two.cell 5 rfl
    clear h2
    go_wp2_with fail
    refine HK.out.mono ?_
    rintro e w3 ⟨rfl, h3⟩
    have H3 := Lib.hid h3
    clear h3 HK H2 b5
    go_wp2
    go_ret
    exact ⟨by rw [HE.out]; rfl, H3.out.drop.drop⟩
set_option maxHeartbeats 20000000 in
set_option maxRecDepth 100000 in
theorem con_more (n : Nat) (hn : n ≤ 100) (k : Int) (lo hi : Int) (lw hh : Bool) (l : List Con) (A : Option Addr) (p : Nat) (k23 : k = 2 ∨ k = 3) (h : S w0 w R) (hp : l.length ≤ p) (hC : kCon.C w0 A l.length l) (ih : ConAt w0 n) :
    Calls Try.prog 141 #[.agg #[.int .i64 k, .int .i64 lo, .int .i64 hi, .bool lw, .bool hh, .slice A l.length p], .int .i64 ((n : Int) + 1)] w fun e w' => e = .returned (.bool (decide (2 ≤ l.length) && kidsB (conB n) ⟨k, lo, hi, lw, hh, l⟩)) ∧ S w0 w' R := by
  have eg : ∀ args w, (callFunc 149 args).run Try.prog w = .ok (.enter 149 args) w := enters_of Try.func149 (by kernel_rfl) rfl
  have HG := Lib.hid eg
  have hl : l.length ≤ 9223372036854775807 := hC.2.1
  have HC := Lib.hid (And.intro hp (And.intro hC ih))
  clear eg
  have H := Lib.hid (alloc_at (n := w.heap.size + 1) (h.alloc (.cells #[.int .i64 k, .int .i64 lo, .int .i64 hi, .bool lw, .bool hh, .slice A l.length p] 50)) (.cells #[.int .i64 ((n : Int) + 1)] 3) (by simp))
  have b0 := H.out.two.cell 0 rfl
  have b1 := H.out.two.cell 1 rfl
  have b2 := H.out.two.cell 2 rfl
  have b3 := H.out.two.cell 3 rfl
  have b4 := H.out.two.cell 4 rfl
  have b5 := H.out.two.cell 5 rfl
  have e0 := H.out.cell 0 rfl
  have n0 : (((n : Int) + 1) == 0) = false := beq_eq_false_iff_ne.2 (by omega)
  have n1 : decide ((n : Int) + 1 = 0) = false := decide_eq_false (by omega)
  clear h hp hC ih
  have m0 : (k == 0) = false := beq_eq_false_iff_ne.2 (by omega)
  have m1 : (k == 1) = false := beq_eq_false_iff_ne.2 (by omega)
  have m4 : (k == 4) = false := beq_eq_false_iff_ne.2 (by omega)
  by_cases hz : 2 ≤ l.length
  · have z1 : decide ((l.length : Int) < 2) = false := decide_eq_false (by omega)
    rw [decide_eq_true hz, Bool.true_and]
    clear hz
    by_cases k2 : k = 2
    · have m2 : (k == 2) = true := beq_iff_eq.2 k2
      clear k2 k23
      go_enter Try.func141, Try.ntmps141
      go_wp2_with fail
      refine (bare_calls ⟨k, lo, hi, lw, hh, l⟩ A p H.out).mono ?_
      rintro e w2 ⟨rfl, h2⟩
      cases hb : bareB ⟨k, lo, hi, lw, hh, l⟩ with
      | false =>
        have H2 := Lib.hid h2
        have HE : Hid (kidsB (conB n) ⟨k, lo, hi, lw, hh, l⟩ = false) := Lib.hid (by unfold kidsB; rw [hb]; rfl)
        clear h2 hb b0 b1 b2 b3 b4 b5 e0
        go_wp2
        go_ret
        exact ⟨by rw [HE.out]; rfl, H2.out.drop.drop⟩
      | true =>
        have H2 := Lib.hid h2
        have HE : Hid (kidsB (conB n) ⟨k, lo, hi, lw, hh, l⟩ = !(l.any fun x => decide (x.f0 = 0) || !conB n x)) := Lib.hid (by unfold kidsB; rw [hb]; rfl)
        have HK := Lib.hid (contains_cons _ _ HG.out (fun x => decide (x.f0 = 0) || !conB n x) A p l HC.out.2.1 h2 (bad_con_tells n hn HC.out.2.2 l (w.heap.size + 1)))
        clear hb b0 b1 b2 b3 b4 b5 e0
        have b5 := H2.out.two.cell 5 rfl
        clear h2
        go_wp2_with fail
        refine HK.out.mono ?_
        rintro e w3 ⟨rfl, h3⟩
        have H3 := Lib.hid h3
        clear h3 HK H2 b5
        go_wp2
        go_ret
        exact ⟨by rw [HE.out]; rfl, H3.out.drop.drop⟩
    · have m2 : (k == 2) = false := beq_eq_false_iff_ne.2 k2
      have m3 : (k == 3) = true := beq_iff_eq.2 (by omega)
      clear k2 k23
      go_enter Try.func141, Try.ntmps141
      go_wp2_with fail
      refine (bare_calls ⟨k, lo, hi, lw, hh, l⟩ A p H.out).mono ?_
      rintro e w2 ⟨rfl, h2⟩
      cases hb : bareB ⟨k, lo, hi, lw, hh, l⟩ with
      | false =>
        have H2 := Lib.hid h2
        have HE : Hid (kidsB (conB n) ⟨k, lo, hi, lw, hh, l⟩ = false) := Lib.hid (by unfold kidsB; rw [hb]; rfl)
        clear h2 hb b0 b1 b2 b3 b4 b5 e0
        go_wp2
        go_ret
        exact ⟨by rw [HE.out]; rfl, H2.out.drop.drop⟩
      | true =>
        have H2 := Lib.hid h2
        have HE : Hid (kidsB (conB n) ⟨k, lo, hi, lw, hh, l⟩ = !(l.any fun x => decide (x.f0 = 0) || !conB n x)) := Lib.hid (by unfold kidsB; rw [hb]; rfl)
        have HK := Lib.hid (contains_cons _ _ HG.out (fun x => decide (x.f0 = 0) || !conB n x) A p l HC.out.2.1 h2 (bad_con_tells n hn HC.out.2.2 l (w.heap.size + 1)))
        clear hb b0 b1 b2 b3 b4 b5 e0
        have b5 := H2.out.two.cell 5 rfl
        clear h2
        go_wp2_with fail
        refine HK.out.mono ?_
        rintro e w3 ⟨rfl, h3⟩
        have H3 := Lib.hid h3
        clear h3 HK H2 b5
        go_wp2
        go_ret
        exact ⟨by rw [HE.out]; rfl, H3.out.drop.drop⟩
  · have z1 : decide ((l.length : Int) < 2) = true := decide_eq_true (by omega)
    rw [decide_eq_false hz]
    clear hz
    by_cases k2 : k = 2
    · have m2 : (k == 2) = true := beq_iff_eq.2 k2
      clear k2 k23
      go_enter Try.func141, Try.ntmps141
      go_wp2
      go_ret
      exact ⟨rfl, H.out.drop.drop⟩
    · have m2 : (k == 2) = false := beq_eq_false_iff_ne.2 k2
      have m3 : (k == 3) = true := beq_iff_eq.2 (by omega)
      clear k2 k23
      go_enter Try.func141, Try.ntmps141
      go_wp2
      go_ret
      exact ⟨rfl, H.out.drop.drop⟩
set_option maxHeartbeats 20000000 in
set_option maxRecDepth 100000 in
theorem con_none (n : Nat) (hn : n ≤ 100) (k : Int) (lo hi : Int) (lw hh : Bool) (l : List Con) (A : Option Addr) (p : Nat) (k0 : k ≠ 0) (k1 : k ≠ 1) (k2 : k ≠ 2) (k3 : k ≠ 3) (k4 : k ≠ 4) (h : S w0 w R) (hp : l.length ≤ p) (hC : kCon.C w0 A l.length l) (ih : ConAt w0 n) :
    Calls Try.prog 141 #[.agg #[.int .i64 k, .int .i64 lo, .int .i64 hi, .bool lw, .bool hh, .slice A l.length p], .int .i64 ((n : Int) + 1)] w fun e w' => e = .returned (.bool (false)) ∧ S w0 w' R := by
  have eg : ∀ args w, (callFunc 149 args).run Try.prog w = .ok (.enter 149 args) w := enters_of Try.func149 (by kernel_rfl) rfl
  have HG := Lib.hid eg
  have hl : l.length ≤ 9223372036854775807 := hC.2.1
  have HC := Lib.hid (And.intro hp (And.intro hC ih))
  clear eg
  have H := Lib.hid (alloc_at (n := w.heap.size + 1) (h.alloc (.cells #[.int .i64 k, .int .i64 lo, .int .i64 hi, .bool lw, .bool hh, .slice A l.length p] 50)) (.cells #[.int .i64 ((n : Int) + 1)] 3) (by simp))
  have b0 := H.out.two.cell 0 rfl
  have b1 := H.out.two.cell 1 rfl
  have b2 := H.out.two.cell 2 rfl
  have b3 := H.out.two.cell 3 rfl
  have b4 := H.out.two.cell 4 rfl
  have b5 := H.out.two.cell 5 rfl
  have e0 := H.out.cell 0 rfl
  have n0 : (((n : Int) + 1) == 0) = false := beq_eq_false_iff_ne.2 (by omega)
  have n1 : decide ((n : Int) + 1 = 0) = false := decide_eq_false (by omega)
  clear h hp hC ih
  have m0 : (k == 0) = false := beq_eq_false_iff_ne.2 (by omega)
  have m1 : (k == 1) = false := beq_eq_false_iff_ne.2 (by omega)
  have m2 : (k == 2) = false := beq_eq_false_iff_ne.2 (by omega)
  have m3 : (k == 3) = false := beq_eq_false_iff_ne.2 (by omega)
  have m4 : (k == 4) = false := beq_eq_false_iff_ne.2 (by omega)
  clear k0 k1 k2 k3 k4
  go_enter Try.func141, Try.ntmps141
  go_wp2
  go_ret
  exact ⟨rfl, H.out.drop.drop⟩
theorem con_succ (n : Nat) (hn : n ≤ 100) (ih : ConAt w0 n) : ConAt w0 (n + 1) := by
  intro w R c A p h hp hC
  obtain ⟨k, lo, hi, lw, hh, l⟩ := c
  have e : conB (n + 1) ⟨k, lo, hi, lw, hh, l⟩ = conS (conB n) ⟨k, lo, hi, lw, hh, l⟩ := rfl
  rw [e, con_S]
  clear e
  by_cases k0 : k = 0
  · subst k0
    rw [if_pos rfl]
    exact con_all n hn lo hi lw hh l A p h hp hC ih
  rw [if_neg k0]
  by_cases k1 : k = 1
  · subst k1
    rw [if_pos rfl]
    exact con_span n hn lo hi lw hh l A p h hp hC ih
  rw [if_neg k1]
  by_cases k4 : k = 4
  · rw [if_pos k4]
    exact con_four n hn k lo hi lw hh l A p k4 h hp hC ih
  rw [if_neg k4]
  by_cases k23 : k = 2 ∨ k = 3
  · rw [if_pos k23]
    exact con_more n hn k lo hi lw hh l A p k23 h hp hC ih
  rw [if_neg k23]
  exact con_none n hn k lo hi lw hh l A p k0 k1 (by omega) (by omega) k4 h hp hC ih
theorem con_at (n : Nat) (hn : n ≤ 101) : ConAt w0 n := by
  induction n with
  | zero => exact con_zero
  | succ n ih => exact con_succ n (by omega) (ih (by omega))
theorem con40_calls (c : Con) (A : Option Addr) (p : Nat) (h : S w0 w R) (hp : c.f5.length ≤ p) (hC : kCon.C w0 A c.f5.length c.f5) :
    Calls Try.prog 130 #[.agg #[.int .i64 c.f0, .int .i64 c.f1, .int .i64 c.f2, .bool c.f3, .bool c.f4, .slice A c.f5.length p]] w fun e w' => e = .returned (.bool (conB 40 c)) ∧ S w0 w' R := by
  have H := Lib.hid (h.alloc (.cells #[.int .i64 c.f0, .int .i64 c.f1, .int .i64 c.f2, .bool c.f3, .bool c.f4, .slice A c.f5.length p] 50))
  have HC := Lib.hid (con_at (w0 := w0) 40 (by omega) _ _ c A p H.out hp hC)
  have b0 := H.out.cell 0 rfl
  have b1 := H.out.cell 1 rfl
  have b2 := H.out.cell 2 rfl
  have b3 := H.out.cell 3 rfl
  have b4 := H.out.cell 4 rfl
  have b5 := H.out.cell 5 rfl
  clear h hp hC
  go_enter Try.func130, Try.ntmps130
  go_wp2_with fail
  refine HC.out.mono ?_
  rintro e w2 ⟨rfl, h2⟩
  have H2 := Lib.hid h2
  clear h2 HC
  go_wp2
  go_ret
  exact ⟨rfl, H2.out.drop⟩
end Go.Proofs.Ytbjddomocggjmaa.Sc
