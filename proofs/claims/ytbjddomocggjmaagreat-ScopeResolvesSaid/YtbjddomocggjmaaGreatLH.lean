/- scope.con: walked. -/
import Derived.Deep.RegionHeld3
import Derived.Test.YtbjddomocggjmaaGreatLF
import Derived.Test.YtbjddomocggjmaaGreatLG
section
namespace Go.Proofs.YtbjddomocggjmaaGreat.Sc
open Go.RowKit Go.ChangeShapes Go.WideShapes Go.Proofs.YtbjddomocggjmaaGreat.Sep
open Go.Proofs.YtbjddomocggjmaaGreatW.PrintWords
variable {B : Nat} {w0 w : World} {R : HP}
theorem alloc_at {n : Nat} (h : St B w0 w R) (o : Obj) (hn : n = w.heap.size) : St B w0 (w.alloc o) (Blk n o • R) := by
 subst hn
 exact h.alloc o
def least : Int := -9223372036854775808
def bareB (c : Con) : Bool := decide (c.f1 = 0) && decide (c.f2 = 0) && !c.f3 && !c.f4
def kidsB (b : Con → Bool) (c : Con) : Bool := bareB c && !(c.f5.any fun x => decide (x.f0 = 0) || !b x)
def spanB (c : Con) : Bool := decide (c.f5.length = 0) && decide (c.f1 ≠ least) && decide (c.f2 ≠ least) && (!c.f3 || decide (c.f1 = 0)) && (!c.f4 || decide (c.f2 = 0))
def conS (b : Con → Bool) (c : Con) : Bool :=
 if c.f0 = 0 then bareB c && decide (c.f5.length = 0)
 else if c.f0 = 1 then spanB c
 else if c.f0 = 4 then decide (c.f5.length = 2) && kidsB b c
 else if c.f0 = 2 ∨ c.f0 = 3 then decide (2 ≤ c.f5.length) && kidsB b c
 else false
def conB : Nat → Con → Bool
 | 0,_ => false
 | n + 1,c => conS (conB n) c
theorem bare_calls (c : Con) (A : Option Addr) (p : Nat) (h : St B w0 w R) :
  Calls Tryz.prog 102 #[.agg #[.int .i64 c.f0,.int .i64 c.f1,.int .i64 c.f2,.bool c.f3,.bool c.f4,.slice A c.f5.length p]] w fun e w' => e = .returned (.bool (bareB c)) ∧ St B w0 w' R := by
 obtain ⟨k,lo,hi,lw,hh,l⟩ := c
 show Calls Tryz.prog 102 #[.agg #[.int .i64 k,.int .i64 lo,.int .i64 hi,.bool lw,.bool hh,.slice A l.length p]] w fun e w' => e = .returned (.bool (decide (lo = 0) && decide (hi = 0) && !lw && !hh)) ∧ St B w0 w' R
 have H := Lib.hid (h.alloc (.cells #[.int .i64 k,.int .i64 lo,.int .i64 hi,.bool lw,.bool hh,.slice A l.length p] 33))
 have b1 := H.out.cell 1 rfl
 have b2 := H.out.cell 2 rfl
 have b3 := H.out.cell 3 rfl
 have b4 := H.out.cell 4 rfl
 clear h
 by_cases q1 : lo = 0
 ·have p1 : (lo == 0) = true := beq_iff_eq.2 q1
  rw [decide_eq_true q1,Bool.true_and]
  clear q1
  by_cases q2 : hi = 0
  ·have p2 : (hi == 0) = true := beq_iff_eq.2 q2
   rw [decide_eq_true q2,Bool.true_and]
   clear q2
   cases lw with
   | false =>
    go_enter Tryz.func102,Tryz.ntmps102
    go_wp2
    go_ret
    exact ⟨rfl,H.out.drop⟩
   | true =>
    go_enter Tryz.func102,Tryz.ntmps102
    go_wp2
    go_ret
    exact ⟨rfl,H.out.drop⟩
  ·have p2 : (hi == 0) = false := beq_eq_false_iff_ne.2 q2
   rw [decide_eq_false q2]
   clear q2
   go_enter Tryz.func102,Tryz.ntmps102
   go_wp2
   go_ret
   exact ⟨rfl,H.out.drop⟩
 ·have p1 : (lo == 0) = false := beq_eq_false_iff_ne.2 q1
  rw [decide_eq_false q1]
  clear q1
  go_enter Tryz.func102,Tryz.ntmps102
  go_wp2
  go_ret
  exact ⟨rfl,H.out.drop⟩
def ConAt (w0 : World) (n : Nat) : Prop := ∀ (W : World) (Q : HP) (c : Con) (A : Option Addr) (p : Nat),S w0 W Q → c.f5.length ≤ p → kCon.C w0 A c.f5.length c.f5 →
 Calls Tryz.prog 91 #[.agg #[.int .i64 c.f0,.int .i64 c.f1,.int .i64 c.f2,.bool c.f3,.bool c.f4,.slice A c.f5.length p],.int .i64 n] W fun e w' => e = .returned (.bool (conB n c)) ∧ S w0 w' Q
theorem bad_con_tells (n : Nat) (hn : n ≤ 100) (ih : ConAt w0 n) (l : List Con) (b : Nat) :
  Tells kCon w0 (Blk b (.cells #[.int .i64 ((n : Int) + 1)] 3) • R) 104 #[.pointer (some ⟨b,0,none⟩)] l (fun x => decide (x.f0 = 0) || !conB n x) := by
 intro W c h _ cs hK
 obtain ⟨A,p,rfl,hp,hC⟩ := PScopeResolves.k33_open hK
 have H := Lib.hid (h.alloc (.cells #[.int .i64 c.f0,.int .i64 c.f1,.int .i64 c.f2,.bool c.f3,.bool c.f4,.slice A c.f5.length p] 33))
 have b0 := H.out.cell 0 rfl
 have b1 := H.out.cell 1 rfl
 have b2 := H.out.cell 2 rfl
 have b3 := H.out.cell 3 rfl
 have b4 := H.out.cell 4 rfl
 have b5 := H.out.cell 5 rfl
 have e0 := H.out.two.cell 0 rfl
 have HC := Lib.hid (ih _ _ c A p H.out hp hC)
 have w1 : IntKind.i64.wrap ((n : Int) + 1 - 1) = (n : Int) := by rw [show (n : Int) + 1 - 1 = n by omega]; exact IntWalk.i64_in _ (by omega)
 have w2 : ((n : Int) + 1 - 1) = (n : Int) := by omega
 show Calls Tryz.prog 104 #[.agg #[.int .i64 c.f0,.int .i64 c.f1,.int .i64 c.f2,.bool c.f3,.bool c.f4,.slice A c.f5.length p],.pointer (some ⟨b,0,none⟩)] W fun e w' => e = .returned (.bool (decide (c.f0 = 0) || !conB n c)) ∧ S w0 w' (Blk b (.cells #[.int .i64 ((n : Int) + 1)] 3) • R)
 clear h hK hp hC ih
 by_cases q : c.f0 = 0
 ·have p1 : (c.f0 == 0) = true := beq_iff_eq.2 q
  rw [decide_eq_true q,Bool.true_or]
  clear q
  go_enter Tryz.func104,Tryz.ntmps104
  go_wp2
  go_ret
  exact ⟨rfl,H.out.drop⟩
 ·have p1 : (c.f0 == 0) = false := beq_eq_false_iff_ne.2 q
  rw [decide_eq_false q,Bool.false_or]
  clear q
  go_enter Tryz.func104,Tryz.ntmps104
  go_wp2_with fail
  refine HC.out.mono ?_
  rintro e w2 ⟨rfl,h2⟩
  have H2 := Lib.hid h2
  clear h2 HC
  go_wp2
  go_ret
  exact ⟨rfl,H2.out.drop⟩
theorem con_zero : ConAt w0 0 := by
 intro W Q c A p h hp hC
 have H := Lib.hid h
 have e : conB 0 c = false := rfl
 rw [e]
 clear h hp hC e
 show Calls Tryz.prog 91 #[.agg #[.int .i64 c.f0,.int .i64 c.f1,.int .i64 c.f2,.bool c.f3,.bool c.f4,.slice A c.f5.length p],.int .i64 0] W _
 go_enter Tryz.func91,Tryz.ntmps91
 have H2 := Lib.hid ((H.out.alloc (.cells #[.int .i64 c.f0,.int .i64 c.f1,.int .i64 c.f2,.bool c.f3,.bool c.f4,.slice A c.f5.length p] 33)).alloc (.cells #[.int .i64 0] 3))
 have e0 := H2.out.cell 0 rfl
 go_wp2
 go_ret
 exact ⟨rfl,H2.out.drop.drop⟩
theorem con_S (b : Con → Bool) (k lo hi : Int) (lw hh : Bool) (l : List Con) : conS b ⟨k,lo,hi,lw,hh,l⟩ =
 if k = 0 then bareB ⟨k,lo,hi,lw,hh,l⟩ && decide (l.length = 0) else if k = 1 then spanB ⟨k,lo,hi,lw,hh,l⟩ else if k = 4 then decide (l.length = 2) && kidsB b ⟨k,lo,hi,lw,hh,l⟩ else if k = 2 ∨ k = 3 then decide (2 ≤ l.length) && kidsB b ⟨k,lo,hi,lw,hh,l⟩ else false := rfl
set_option maxHeartbeats 20000000 in
set_option maxRecDepth 100000 in
theorem con_all (n : Nat) (hn : n ≤ 100) (lo hi : Int) (lw hh : Bool) (l : List Con) (A : Option Addr) (p : Nat) (h : S w0 w R) (hp : l.length ≤ p) (hC : kCon.C w0 A l.length l) (ih : ConAt w0 n) :
  Calls Tryz.prog 91 #[.agg #[.int .i64 0,.int .i64 lo,.int .i64 hi,.bool lw,.bool hh,.slice A l.length p],.int .i64 ((n : Int) + 1)] w fun e w' => e = .returned (.bool (bareB ⟨0,lo,hi,lw,hh,l⟩ && decide (l.length = 0))) ∧ S w0 w' R := by
 have eg : ∀ args w,(callFunc 104 args).run Tryz.prog w = .ok (.enter 104 args) w := enters_of Tryz.func104 (by kernel_rfl) rfl
 have HG := Lib.hid eg
 have hl : l.length ≤ 9223372036854775807 := hC.2.1
 have HC := Lib.hid (And.intro hp (And.intro hC ih))
 clear eg
 have H := Lib.hid (alloc_at (n := w.heap.size + 1) (h.alloc (.cells #[.int .i64 0,.int .i64 lo,.int .i64 hi,.bool lw,.bool hh,.slice A l.length p] 33)) (.cells #[.int .i64 ((n : Int) + 1)] 3) (by simp))
 have b0 := H.out.two.cell 0 rfl
 have b1 := H.out.two.cell 1 rfl
 have b2 := H.out.two.cell 2 rfl
 have b3 := H.out.two.cell 3 rfl
 have b4 := H.out.two.cell 4 rfl
 have b5 := H.out.two.cell 5 rfl
 have e0 := H.out.cell 0 rfl
 have n0 : (((n : Int) + 1) == 0) = false := beq_eq_false_iff_ne.2 (by omega)
 have n1 : decide ((n : Int) + 1 = 0) = false := decide_eq_false (by omega)
 clear h hp hC ih
 have HB := Lib.hid (bare_calls ⟨0,lo,hi,lw,hh,l⟩ A p H.out)
 generalize bareB ⟨0,lo,hi,lw,hh,l⟩ = bb at *
 by_cases hz : l.length = 0
 ·have z1 : ((l.length : Int) == 0) = true := beq_iff_eq.2 (by omega)
  rw [decide_eq_true hz]
  clear hz
  cases bb
  all_goals
   go_enter Tryz.func91,Tryz.ntmps91
   go_wp2_with fail
   refine HB.out.mono ?_
   rintro e w2 ⟨rfl,h2⟩
   have H2 := Lib.hid h2
   have b5 := h2.two.cell 5 rfl
   clear h2 b0 b1 b2 b3 b4 e0
   go_wp2
   go_ret
   exact ⟨rfl,H2.out.drop.drop⟩
 ·have z1 : ((l.length : Int) == 0) = false := beq_eq_false_iff_ne.2 (by omega)
  rw [decide_eq_false hz,Bool.and_false]
  clear hz
  cases bb
  all_goals
   go_enter Tryz.func91,Tryz.ntmps91
   go_wp2_with fail
   refine HB.out.mono ?_
   rintro e w2 ⟨rfl,h2⟩
   have H2 := Lib.hid h2
   have b5 := h2.two.cell 5 rfl
   clear h2 b0 b1 b2 b3 b4 e0
   go_wp2
   go_ret
   exact ⟨rfl,H2.out.drop.drop⟩
set_option maxHeartbeats 20000000 in
set_option maxRecDepth 100000 in
theorem con_span (n : Nat) (hn : n ≤ 100) (lo hi : Int) (lw hh : Bool) (l : List Con) (A : Option Addr) (p : Nat) (h : S w0 w R) (hp : l.length ≤ p) (hC : kCon.C w0 A l.length l) (ih : ConAt w0 n) :
  Calls Tryz.prog 91 #[.agg #[.int .i64 1,.int .i64 lo,.int .i64 hi,.bool lw,.bool hh,.slice A l.length p],.int .i64 ((n : Int) + 1)] w fun e w' => e = .returned (.bool (decide (l.length = 0) && decide (lo ≠ least) && decide (hi ≠ least) && (!lw || decide (lo = 0)) && (!hh || decide (hi = 0)))) ∧ S w0 w' R := by
 have eg : ∀ args w,(callFunc 104 args).run Tryz.prog w = .ok (.enter 104 args) w := enters_of Tryz.func104 (by kernel_rfl) rfl
 have HG := Lib.hid eg
 have hl : l.length ≤ 9223372036854775807 := hC.2.1
 have HC := Lib.hid (And.intro hp (And.intro hC ih))
 clear eg
 have H := Lib.hid (alloc_at (n := w.heap.size + 1) (h.alloc (.cells #[.int .i64 1,.int .i64 lo,.int .i64 hi,.bool lw,.bool hh,.slice A l.length p] 33)) (.cells #[.int .i64 ((n : Int) + 1)] 3) (by simp))
 have b0 := H.out.two.cell 0 rfl
 have b1 := H.out.two.cell 1 rfl
 have b2 := H.out.two.cell 2 rfl
 have b3 := H.out.two.cell 3 rfl
 have b4 := H.out.two.cell 4 rfl
 have b5 := H.out.two.cell 5 rfl
 have e0 := H.out.cell 0 rfl
 have n0 : (((n : Int) + 1) == 0) = false := beq_eq_false_iff_ne.2 (by omega)
 have n1 : decide ((n : Int) + 1 = 0) = false := decide_eq_false (by omega)
 clear h hp hC ih
 by_cases hz : l.length = 0
 case neg =>
  have z1 : ((l.length : Int) == 0) = false := beq_eq_false_iff_ne.2 (by omega)
  rw [decide_eq_false hz]
  clear hz
  go_enter Tryz.func91,Tryz.ntmps91
  go_wp2
  go_ret
  exact ⟨rfl,H.out.drop.drop⟩
 have z1 : ((l.length : Int) == 0) = true := beq_iff_eq.2 (by omega)
 rw [decide_eq_true hz,Bool.true_and]
 clear hz
 by_cases h1 : lo = least
 ·have y1 : (lo != -9223372036854775808) = false := by rw [h1]; rfl
  rw [decide_eq_false (show ¬ lo ≠ least from fun hh => hh h1)]
  clear h1
  go_enter Tryz.func91,Tryz.ntmps91
  go_wp2
  go_ret
  exact ⟨rfl,H.out.drop.drop⟩
 have y1 : (lo != -9223372036854775808) = true := bne_iff_ne.2 h1
 rw [decide_eq_true (show lo ≠ least from h1),Bool.true_and]
 clear h1
 by_cases h2 : hi = least
 ·have y2 : (hi != -9223372036854775808) = false := by rw [h2]; rfl
  rw [decide_eq_false (show ¬ hi ≠ least from fun hh => hh h2)]
  clear h2
  go_enter Tryz.func91,Tryz.ntmps91
  go_wp2
  go_ret
  exact ⟨rfl,H.out.drop.drop⟩
 have y2 : (hi != -9223372036854775808) = true := bne_iff_ne.2 h2
 rw [decide_eq_true (show hi ≠ least from h2),Bool.true_and]
 clear h2
 by_cases h3 : lo = 0
 ·have x1 : (lo == 0) = true := beq_iff_eq.2 h3
  rw [decide_eq_true h3,Bool.or_true,Bool.true_and]
  clear h3
  by_cases h4 : hi = 0
  ·have x2 : (hi == 0) = true := beq_iff_eq.2 h4
   rw [decide_eq_true h4,Bool.or_true]
   clear h4
   cases lw <;> cases hh
   all_goals
    go_enter Tryz.func91,Tryz.ntmps91
    go_wp2
    go_ret
    exact ⟨rfl,H.out.drop.drop⟩
  ·have x2 : (hi == 0) = false := beq_eq_false_iff_ne.2 h4
   rw [decide_eq_false h4,Bool.or_false]
   clear h4
   cases lw <;> cases hh
   all_goals
    go_enter Tryz.func91,Tryz.ntmps91
    go_wp2
    go_ret
    exact ⟨rfl,H.out.drop.drop⟩
 ·have x1 : (lo == 0) = false := beq_eq_false_iff_ne.2 h3
  rw [decide_eq_false h3,Bool.or_false]
  clear h3
  by_cases h4 : hi = 0
  ·have x2 : (hi == 0) = true := beq_iff_eq.2 h4
   rw [decide_eq_true h4,Bool.or_true]
   clear h4
   cases lw <;> cases hh
   all_goals
    go_enter Tryz.func91,Tryz.ntmps91
    go_wp2
    go_ret
    exact ⟨rfl,H.out.drop.drop⟩
  ·have x2 : (hi == 0) = false := beq_eq_false_iff_ne.2 h4
   rw [decide_eq_false h4,Bool.or_false]
   clear h4
   cases lw <;> cases hh
   all_goals
    go_enter Tryz.func91,Tryz.ntmps91
    go_wp2
    go_ret
    exact ⟨rfl,H.out.drop.drop⟩
set_option maxHeartbeats 20000000 in
set_option maxRecDepth 100000 in
theorem con_four (n : Nat) (hn : n ≤ 100) (k : Int) (lo hi : Int) (lw hh : Bool) (l : List Con) (A : Option Addr) (p : Nat) (k4 : k = 4) (h : S w0 w R) (hp : l.length ≤ p) (hC : kCon.C w0 A l.length l) (ih : ConAt w0 n) :
  Calls Tryz.prog 91 #[.agg #[.int .i64 k,.int .i64 lo,.int .i64 hi,.bool lw,.bool hh,.slice A l.length p],.int .i64 ((n : Int) + 1)] w fun e w' => e = .returned (.bool (decide (l.length = 2) && kidsB (conB n) ⟨k,lo,hi,lw,hh,l⟩)) ∧ S w0 w' R := by
 have eg : ∀ args w,(callFunc 104 args).run Tryz.prog w = .ok (.enter 104 args) w := enters_of Tryz.func104 (by kernel_rfl) rfl
 have HG := Lib.hid eg
 have hl : l.length ≤ 9223372036854775807 := hC.2.1
 have HC := Lib.hid (And.intro hp (And.intro hC ih))
 clear eg
 have H := Lib.hid (alloc_at (n := w.heap.size + 1) (h.alloc (.cells #[.int .i64 k,.int .i64 lo,.int .i64 hi,.bool lw,.bool hh,.slice A l.length p] 33)) (.cells #[.int .i64 ((n : Int) + 1)] 3) (by simp))
 have b0 := H.out.two.cell 0 rfl
 have b1 := H.out.two.cell 1 rfl
 have b2 := H.out.two.cell 2 rfl
 have b3 := H.out.two.cell 3 rfl
 have b4 := H.out.two.cell 4 rfl
 have b5 := H.out.two.cell 5 rfl
 have e0 := H.out.cell 0 rfl
 have n0 : (((n : Int) + 1) == 0) = false := beq_eq_false_iff_ne.2 (by omega)
 have n1 : decide ((n : Int) + 1 = 0) = false := decide_eq_false (by omega)
 clear h hp hC ih
 have m0 : (k == 0) = false := beq_eq_false_iff_ne.2 (by omega)
 have m1 : (k == 1) = false := beq_eq_false_iff_ne.2 (by omega)
 have m4 : (k == 4) = true := beq_iff_eq.2 k4
 clear k4
 by_cases hz : l.length = 2
 case neg =>
  have z1 : ((l.length : Int) != 2) = true := bne_iff_ne.2 (by omega)
  rw [decide_eq_false hz]
  clear hz
  go_enter Tryz.func91,Tryz.ntmps91
  go_wp2
  go_ret
  exact ⟨rfl,H.out.drop.drop⟩
 have z1 : ((l.length : Int) != 2) = false := bne_eq_false_iff_eq.2 (by omega)
 rw [decide_eq_true hz,Bool.true_and]
 clear hz
 go_enter Tryz.func91,Tryz.ntmps91
 go_wp2_with fail
 refine (bare_calls ⟨k,lo,hi,lw,hh,l⟩ A p H.out).mono ?_
 rintro e w2 ⟨rfl,h2⟩
 cases hb : bareB ⟨k,lo,hi,lw,hh,l⟩ with
 | false =>
  have H2 := Lib.hid h2
  have HE : Hid (kidsB (conB n) ⟨k,lo,hi,lw,hh,l⟩ = false) := Lib.hid (by unfold kidsB; rw [hb]; rfl)
  clear h2 hb b0 b1 b2 b3 b4 b5 e0
  go_wp2
  go_ret
  exact ⟨by rw [HE.out]; rfl,H2.out.drop.drop⟩
 | true =>
  have H2 := Lib.hid h2
  have HE : Hid (kidsB (conB n) ⟨k,lo,hi,lw,hh,l⟩ = !(l.any fun x => decide (x.f0 = 0) || !conB n x)) := Lib.hid (by unfold kidsB; rw [hb]; rfl)
  have HK := Lib.hid (contains_cons _ _ HG.out (fun x => decide (x.f0 = 0) || !conB n x) A p l HC.out.2.1 h2 (bad_con_tells n hn HC.out.2.2 l (w.heap.size + 1)))
  clear hb b0 b1 b2 b3 b4 b5 e0
  have b5 := H2.out.two.cell 5 rfl
  clear h2
  go_wp2_with fail
  refine HK.out.mono ?_
  rintro e w3 ⟨rfl,h3⟩
  have H3 := Lib.hid h3
  clear h3 HK H2 b5
  go_wp2
  go_ret
  exact ⟨by rw [HE.out]; rfl,H3.out.drop.drop⟩
set_option maxHeartbeats 20000000 in
set_option maxRecDepth 100000 in
theorem con_more (n : Nat) (hn : n ≤ 100) (k : Int) (lo hi : Int) (lw hh : Bool) (l : List Con) (A : Option Addr) (p : Nat) (k23 : k = 2 ∨ k = 3) (h : S w0 w R) (hp : l.length ≤ p) (hC : kCon.C w0 A l.length l) (ih : ConAt w0 n) :
  Calls Tryz.prog 91 #[.agg #[.int .i64 k,.int .i64 lo,.int .i64 hi,.bool lw,.bool hh,.slice A l.length p],.int .i64 ((n : Int) + 1)] w fun e w' => e = .returned (.bool (decide (2 ≤ l.length) && kidsB (conB n) ⟨k,lo,hi,lw,hh,l⟩)) ∧ S w0 w' R := by
 have eg : ∀ args w,(callFunc 104 args).run Tryz.prog w = .ok (.enter 104 args) w := enters_of Tryz.func104 (by kernel_rfl) rfl
 have HG := Lib.hid eg
 have hl : l.length ≤ 9223372036854775807 := hC.2.1
 have HC := Lib.hid (And.intro hp (And.intro hC ih))
 clear eg
 have H := Lib.hid (alloc_at (n := w.heap.size + 1) (h.alloc (.cells #[.int .i64 k,.int .i64 lo,.int .i64 hi,.bool lw,.bool hh,.slice A l.length p] 33)) (.cells #[.int .i64 ((n : Int) + 1)] 3) (by simp))
 have b0 := H.out.two.cell 0 rfl
 have b1 := H.out.two.cell 1 rfl
 have b2 := H.out.two.cell 2 rfl
 have b3 := H.out.two.cell 3 rfl
 have b4 := H.out.two.cell 4 rfl
 have b5 := H.out.two.cell 5 rfl
 have e0 := H.out.cell 0 rfl
 have n0 : (((n : Int) + 1) == 0) = false := beq_eq_false_iff_ne.2 (by omega)
 have n1 : decide ((n : Int) + 1 = 0) = false := decide_eq_false (by omega)
 clear h hp hC ih
 have m0 : (k == 0) = false := beq_eq_false_iff_ne.2 (by omega)
 have m1 : (k == 1) = false := beq_eq_false_iff_ne.2 (by omega)
 have m4 : (k == 4) = false := beq_eq_false_iff_ne.2 (by omega)
 by_cases hz : 2 ≤ l.length
 ·have z1 : decide ((l.length : Int) < 2) = false := decide_eq_false (by omega)
  rw [decide_eq_true hz,Bool.true_and]
  clear hz
  by_cases k2 : k = 2
  ·have m2 : (k == 2) = true := beq_iff_eq.2 k2
   clear k2 k23
   go_enter Tryz.func91,Tryz.ntmps91
   go_wp2_with fail
   refine (bare_calls ⟨k,lo,hi,lw,hh,l⟩ A p H.out).mono ?_
   rintro e w2 ⟨rfl,h2⟩
   cases hb : bareB ⟨k,lo,hi,lw,hh,l⟩ with
   | false =>
    have H2 := Lib.hid h2
    have HE : Hid (kidsB (conB n) ⟨k,lo,hi,lw,hh,l⟩ = false) := Lib.hid (by unfold kidsB; rw [hb]; rfl)
    clear h2 hb b0 b1 b2 b3 b4 b5 e0
    go_wp2
    go_ret
    exact ⟨by rw [HE.out]; rfl,H2.out.drop.drop⟩
   | true =>
    have H2 := Lib.hid h2
    have HE : Hid (kidsB (conB n) ⟨k,lo,hi,lw,hh,l⟩ = !(l.any fun x => decide (x.f0 = 0) || !conB n x)) := Lib.hid (by unfold kidsB; rw [hb]; rfl)
    have HK := Lib.hid (contains_cons _ _ HG.out (fun x => decide (x.f0 = 0) || !conB n x) A p l HC.out.2.1 h2 (bad_con_tells n hn HC.out.2.2 l (w.heap.size + 1)))
    clear hb b0 b1 b2 b3 b4 b5 e0
    have b5 := H2.out.two.cell 5 rfl
    clear h2
    go_wp2_with fail
    refine HK.out.mono ?_
    rintro e w3 ⟨rfl,h3⟩
    have H3 := Lib.hid h3
    clear h3 HK H2 b5
    go_wp2
    go_ret
    exact ⟨by rw [HE.out]; rfl,H3.out.drop.drop⟩
  ·have m2 : (k == 2) = false := beq_eq_false_iff_ne.2 k2
   have m3 : (k == 3) = true := beq_iff_eq.2 (by omega)
   clear k2 k23
   go_enter Tryz.func91,Tryz.ntmps91
   go_wp2_with fail
   refine (bare_calls ⟨k,lo,hi,lw,hh,l⟩ A p H.out).mono ?_
   rintro e w2 ⟨rfl,h2⟩
   cases hb : bareB ⟨k,lo,hi,lw,hh,l⟩ with
   | false =>
    have H2 := Lib.hid h2
    have HE : Hid (kidsB (conB n) ⟨k,lo,hi,lw,hh,l⟩ = false) := Lib.hid (by unfold kidsB; rw [hb]; rfl)
    clear h2 hb b0 b1 b2 b3 b4 b5 e0
    go_wp2
    go_ret
    exact ⟨by rw [HE.out]; rfl,H2.out.drop.drop⟩
   | true =>
    have H2 := Lib.hid h2
    have HE : Hid (kidsB (conB n) ⟨k,lo,hi,lw,hh,l⟩ = !(l.any fun x => decide (x.f0 = 0) || !conB n x)) := Lib.hid (by unfold kidsB; rw [hb]; rfl)
    have HK := Lib.hid (contains_cons _ _ HG.out (fun x => decide (x.f0 = 0) || !conB n x) A p l HC.out.2.1 h2 (bad_con_tells n hn HC.out.2.2 l (w.heap.size + 1)))
    clear hb b0 b1 b2 b3 b4 b5 e0
    have b5 := H2.out.two.cell 5 rfl
    clear h2
    go_wp2_with fail
    refine HK.out.mono ?_
    rintro e w3 ⟨rfl,h3⟩
    have H3 := Lib.hid h3
    clear h3 HK H2 b5
    go_wp2
    go_ret
    exact ⟨by rw [HE.out]; rfl,H3.out.drop.drop⟩
 ·have z1 : decide ((l.length : Int) < 2) = true := decide_eq_true (by omega)
  rw [decide_eq_false hz]
  clear hz
  by_cases k2 : k = 2
  ·have m2 : (k == 2) = true := beq_iff_eq.2 k2
   clear k2 k23
   go_enter Tryz.func91,Tryz.ntmps91
   go_wp2
   go_ret
   exact ⟨rfl,H.out.drop.drop⟩
  ·have m2 : (k == 2) = false := beq_eq_false_iff_ne.2 k2
   have m3 : (k == 3) = true := beq_iff_eq.2 (by omega)
   clear k2 k23
   go_enter Tryz.func91,Tryz.ntmps91
   go_wp2
   go_ret
   exact ⟨rfl,H.out.drop.drop⟩
set_option maxHeartbeats 20000000 in
set_option maxRecDepth 100000 in
theorem con_none (n : Nat) (hn : n ≤ 100) (k : Int) (lo hi : Int) (lw hh : Bool) (l : List Con) (A : Option Addr) (p : Nat) (k0 : k ≠ 0) (k1 : k ≠ 1) (k2 : k ≠ 2) (k3 : k ≠ 3) (k4 : k ≠ 4) (h : S w0 w R) (hp : l.length ≤ p) (hC : kCon.C w0 A l.length l) (ih : ConAt w0 n) :
  Calls Tryz.prog 91 #[.agg #[.int .i64 k,.int .i64 lo,.int .i64 hi,.bool lw,.bool hh,.slice A l.length p],.int .i64 ((n : Int) + 1)] w fun e w' => e = .returned (.bool (false)) ∧ S w0 w' R := by
 have eg : ∀ args w,(callFunc 104 args).run Tryz.prog w = .ok (.enter 104 args) w := enters_of Tryz.func104 (by kernel_rfl) rfl
 have HG := Lib.hid eg
 have hl : l.length ≤ 9223372036854775807 := hC.2.1
 have HC := Lib.hid (And.intro hp (And.intro hC ih))
 clear eg
 have H := Lib.hid (alloc_at (n := w.heap.size + 1) (h.alloc (.cells #[.int .i64 k,.int .i64 lo,.int .i64 hi,.bool lw,.bool hh,.slice A l.length p] 33)) (.cells #[.int .i64 ((n : Int) + 1)] 3) (by simp))
 have b0 := H.out.two.cell 0 rfl
 have b1 := H.out.two.cell 1 rfl
 have b2 := H.out.two.cell 2 rfl
 have b3 := H.out.two.cell 3 rfl
 have b4 := H.out.two.cell 4 rfl
 have b5 := H.out.two.cell 5 rfl
 have e0 := H.out.cell 0 rfl
 have n0 : (((n : Int) + 1) == 0) = false := beq_eq_false_iff_ne.2 (by omega)
 have n1 : decide ((n : Int) + 1 = 0) = false := decide_eq_false (by omega)
 clear h hp hC ih
 have m0 : (k == 0) = false := beq_eq_false_iff_ne.2 (by omega)
 have m1 : (k == 1) = false := beq_eq_false_iff_ne.2 (by omega)
 have m2 : (k == 2) = false := beq_eq_false_iff_ne.2 (by omega)
 have m3 : (k == 3) = false := beq_eq_false_iff_ne.2 (by omega)
 have m4 : (k == 4) = false := beq_eq_false_iff_ne.2 (by omega)
 clear k0 k1 k2 k3 k4
 go_enter Tryz.func91,Tryz.ntmps91
 go_wp2
 go_ret
 exact ⟨rfl,H.out.drop.drop⟩
theorem con_succ (n : Nat) (hn : n ≤ 100) (ih : ConAt w0 n) : ConAt w0 (n + 1) := by
 intro w R c A p h hp hC
 obtain ⟨k,lo,hi,lw,hh,l⟩ := c
 have e : conB (n + 1) ⟨k,lo,hi,lw,hh,l⟩ = conS (conB n) ⟨k,lo,hi,lw,hh,l⟩ := rfl
 rw [e,con_S]
 clear e
 by_cases k0 : k = 0
 ·subst k0
  rw [if_pos rfl]
  exact con_all n hn lo hi lw hh l A p h hp hC ih
 rw [if_neg k0]
 by_cases k1 : k = 1
 ·subst k1
  rw [if_pos rfl]
  exact con_span n hn lo hi lw hh l A p h hp hC ih
 rw [if_neg k1]
 by_cases k4 : k = 4
 ·rw [if_pos k4]
  exact con_four n hn k lo hi lw hh l A p k4 h hp hC ih
 rw [if_neg k4]
 by_cases k23 : k = 2 ∨ k = 3
 ·rw [if_pos k23]
  exact con_more n hn k lo hi lw hh l A p k23 h hp hC ih
 rw [if_neg k23]
 exact con_none n hn k lo hi lw hh l A p k0 k1 (by omega) (by omega) k4 h hp hC ih
theorem con_at (n : Nat) (hn : n ≤ 101) : ConAt w0 n := by
 induction n with
 | zero => exact con_zero
 | succ n ih => exact con_succ n (by omega) (ih (by omega))
theorem con40_calls (c : Con) (A : Option Addr) (p : Nat) (h : S w0 w R) (hp : c.f5.length ≤ p) (hC : kCon.C w0 A c.f5.length c.f5) :
  Calls Tryz.prog 74 #[.agg #[.int .i64 c.f0,.int .i64 c.f1,.int .i64 c.f2,.bool c.f3,.bool c.f4,.slice A c.f5.length p]] w fun e w' => e = .returned (.bool (conB 40 c)) ∧ S w0 w' R := by
 have H := Lib.hid (h.alloc (.cells #[.int .i64 c.f0,.int .i64 c.f1,.int .i64 c.f2,.bool c.f3,.bool c.f4,.slice A c.f5.length p] 33))
 have HC := Lib.hid (con_at (w0 := w0) 40 (by omega) _ _ c A p H.out hp hC)
 have b0 := H.out.cell 0 rfl
 have b1 := H.out.cell 1 rfl
 have b2 := H.out.cell 2 rfl
 have b3 := H.out.cell 3 rfl
 have b4 := H.out.cell 4 rfl
 have b5 := H.out.cell 5 rfl
 clear h hp hC
 go_enter Tryz.func74,Tryz.ntmps74
 go_wp2_with fail
 refine HC.out.mono ?_
 rintro e w2 ⟨rfl,h2⟩
 have H2 := Lib.hid h2
 clear h2 HC
 go_wp2
 go_ret
 exact ⟨rfl,H2.out.drop⟩
end Go.Proofs.YtbjddomocggjmaaGreat.Sc
end
section
namespace Go.Proofs.YtbjddomocggjmaaGreat.Sc
open Go.RowKit Go.ChangeShapes Go.WideShapes Go.Proofs.YtbjddomocggjmaaGreat.Sep
open Go.Proofs.YtbjddomocggjmaaGreatW.PrintWords
variable {B : Nat} {w0 w : World} {R : HP}
theorem q3 {α : Type} : (∀ (l : List α) (i : Nat) (a : α),l.toArray.setIfInBounds i a = (l.set i a).toArray) ∧ (∀ (x a : α) (xs : List α),(x :: xs).set 0 a = a :: xs) ∧ ∀ (x a : α) (xs : List α) (n : Nat),(x :: xs).set (n + 1) a = x :: xs.set n a :=
 ⟨fun _ _ _ => List.setIfInBounds_toArray ..,fun _ _ _ => List.set_cons_zero,fun _ _ _ _ => List.set_cons_succ⟩
theorem step_store_row {P : Program} {ops : Array Oper} {o : Oper} {a : Act} {K : Act → World → Prop} {Q : Exit → Act → World → Prop} {E : Prop} (hw : Region.wanted o (yielded ops a.tmps) = true) {ty : TypeId} {x y : Operand} (ho : o.op = .store ty x y)
  (off : Nat) (cs : List Value) {g n cap : Nat} (hx : a.eval x = .pointer (some ⟨g,off,none⟩)) {val : Value} (hy : a.eval y = val) (hval : val.cells = cs.toArray) (hi : (P.info? ty).map (·.size) = some cs.length) (h1 : ∀ u ∈ cs,u.oneCell' = true)
  {e : TypeId} {size : Nat} {xs : List Value} (h : St B w0 w (RowV e size (.slice (some ⟨g,0,none⟩) n cap) n xs • R)) (ho2 : off + cs.length ≤ n * size)
  (hK : ∀ w',St B w0 w' (RowV e size (.slice (some ⟨g,0,none⟩) n cap) n (xs.take off ++ cs ++ xs.drop (off + cs.length)) • R) → K (a.put o.dst undef) w') : if Region.wanted o (yielded ops a.tmps) = true then Oper.wp P o a w K Q else E := by
 rw [if_pos hw]
 obtain ⟨w',hrun,hst⟩ := store_row (P := P) hval hi h1 h off ho2
 unfold Oper.wp execOp
 simp only [ho,hx,hy,Sem.run_bind,hrun,Result.andThen_ok,Sem.run_pure]
 exact hK w' hst
def ConCopy (w0 : World) (n : Nat) : Prop := ∀ (W : World) (Q : HP) (c : Con) (A : Option Addr) (p : Nat),S w0 W Q → c.f5.length ≤ p → kCon.C w0 A c.f5.length c.f5 → (∀ d,oC d c) → conB n c = true →
 Calls Tryz.prog 34 #[.agg #[.int .i64 c.f0,.int .i64 c.f1,.int .i64 c.f2,.bool c.f3,.bool c.f4,.slice A c.f5.length p]] W fun e w' => ∃ A' p',e = .returned (.agg #[.int .i64 c.f0,.int .i64 c.f1,.int .i64 c.f2,.bool c.f3,.bool c.f4,.slice A' c.f5.length p']) ∧
  S w0 w' (Vw w0 w0.heap.size (fun W => c.f5.length ≤ p' ∧ kCon.C W A' c.f5.length c.f5) • Q)
theorem con_kids {n : Nat} {c : Con} (h : conB (n + 1) c = true) : ∀ x ∈ c.f5,conB n x = true := by
 intro x hx
 have hk : ∀ (b : Con → Bool),kidsB b c = true → b x = true := by
  intro b hb
  unfold kidsB at hb
  rw [Bool.and_eq_true,Bool.not_eq_true',List.any_eq_false] at hb
  have := hb.2 x hx
  simp at this
  exact this.2
 have e : conB (n + 1) c = conS (conB n) c := rfl
 rw [e] at h
 unfold conS spanB at h
 by_cases h0 : c.f0 = 0
 ·rw [if_pos h0,Bool.and_eq_true,decide_eq_true_iff,List.length_eq_zero_iff] at h
  rw [h.2] at hx; cases hx
 rw [if_neg h0] at h
 by_cases h1 : c.f0 = 1
 ·rw [if_pos h1,Bool.and_eq_true,Bool.and_eq_true,Bool.and_eq_true,Bool.and_eq_true,decide_eq_true_iff,List.length_eq_zero_iff] at h
  rw [h.1.1.1.1] at hx; cases hx
 rw [if_neg h1] at h
 by_cases h4 : c.f0 = 4
 ·rw [if_pos h4,Bool.and_eq_true] at h; exact hk _ h.2
 rw [if_neg h4] at h
 by_cases h2 : c.f0 = 2 ∨ c.f0 = 3
 ·rw [if_pos h2,Bool.and_eq_true] at h; exact hk _ h.2
 ·rw [if_neg h2] at h; cases h
set_option maxHeartbeats 8000000 in
set_option maxRecDepth 100000 in
theorem copy_con (n : Nat) (ih : ∀ m,n = m + 1 → ConCopy w0 m) : ConCopy w0 n := by
 intro w R c A p h hp hC ho hc
 obtain ⟨k,lo,hi,lw,hh,l⟩ := c
 cases n with
 | zero => cases hc
 | succ n =>
 have hk := con_kids hc
 have ih' := ih n rfl
 have hlM : l.length * 56 ≤ 140737488355328 := (ho 1).2.2.2.1
 have hok : ∀ x ∈ l, ∀ d,oC d x := fun x hx d => (ho (d + 1)).2.2.2.2 x hx
 have HA := Lib.hid (And.intro hC (And.intro hk (And.intro hok ih')))
 show Calls Tryz.prog 34 #[.agg #[.int .i64 k,.int .i64 lo,.int .i64 hi,.bool lw,.bool hh,.slice A l.length p]] w fun e w' => ∃ A' p',e = .returned (.agg #[.int .i64 k,.int .i64 lo,.int .i64 hi,.bool lw,.bool hh,.slice A' l.length p']) ∧ S w0 w' (Vw w0 w0.heap.size (fun W => l.length ≤ p' ∧ kCon.C W A' l.length l) • R)
 generalize hg : w.heap.size = g
 have H := Lib.hid (alloc_at (n := g + 1) (alloc_at (n := g) h (.cells #[.int .i64 k,.int .i64 lo,.int .i64 hi,.bool lw,.bool hh,.slice A l.length p] 33) hg.symm) (.cells #[.int .i64 0,.int .i64 0,.int .i64 0,.bool false,.bool false,.slice none 0 0] 33) (by simp [hg]))
 have d5 := H.out.two.cell 5 rfl
 clear h hp hC ho hc hk ih ih' hok
 go_enter Tryz.func34,Tryz.ntmps34
 go_wp2_with fail
 refine (clone_cons A p l H.out HA.out.1 (by show l.length * 56 ≤ M; exact hlM)).mono ?_
 rintro e w1 ⟨v1,xs,rfl,hR,h1⟩
 have H1 := Lib.hid h1
 have d5 := h1.three.cell 5 rfl
 have f5 := h1.three.free 5 (.inr (Nat.le_refl _))
 have hv : ∃ B1 p1,v1 = .slice B1 l.length p1 ∧ l.length ≤ p1 := by
  obtain ⟨-,B1,p1,e,hle, -⟩ := h1.reads
  exact ⟨B1,p1,e,hle⟩
 obtain ⟨B1,p1,rfl,hp1⟩ := hv
 have H2 := Lib.hid (h1.three.set 5 (.slice B1 l.length p1)).two
 have HX := Lib.hid hR
 clear h1 hR
 have HX2 := Lib.hid ((Vw.base H2.out (p := fun W => Reps (kCon.K W) 6 l xs) fun wv hb => HX.out.imp_ fun _ _ hp => kCon.K_below hb hp).two)
 go_wp2_with fail
 clear H H1 H2 d5 f5
 go_loopw [12] (fun v wr => ∃ (x : Int) (xk : List Value),0 ≤ x ∧ x ≤ l.length ∧ v = .int .i64 x ∧ Hid (S w0 wr (RowV 33 6 (.slice B1 l.length p1) l.length xk • (Vw w0 w0.heap.size (fun W => Reps (kCon.K W) 6 l xk) • (Blk g (.cells #[.int .i64 k,.int .i64 lo,.int .i64 hi,.bool lw,.bool hh,.slice B1 l.length p1] 33) • (Blk (g + 1) (.cells #[.int .i64 0,.int .i64 0,.int .i64 0,.bool false,.bool false,.slice none 0 0] 33) • R))))) ∧ Hid (xk.drop (x.toNat * 6) = xs.drop (x.toNat * 6))) (fun v _ => l.length - (intOf v).toNat)
 case atStart => exact ⟨0,xs,Int.le_refl _,by omega,rfl,HX2,Lib.hid rfl⟩
 case round =>
  clear HX2
  obtain ⟨x,xk,hx0,hx1,rfl,HR,HT⟩ := hrel
  by_cases hlt : x < l.length
  ·have HG := Lib.hid (getD_mem l zCon x hx0 hlt)
   generalize l.getD x.toNat zCon = r at *
   have hrm := List.mem_of_getElem? HG.out
   obtain ⟨A5,c5,hcs,hr5,hrC⟩ := PScopeResolves.k33_open (HX.out.2 x.toNat r HG.out)
   have hxl : xs.length = l.length * 6 := HX.out.1
   have hxkl : xk.length = l.length * 6 := HR.out.rowLen
   have hle : x.toNat * 6 + 6 ≤ l.length * 6 := by omega
   obtain ⟨-,B1',p1',eB, -, -,hcl⟩ := HR.out.reads
   cases eB
   have hat : ∀ (i : Nat) (u : Value),i < 6 → ([.int .i64 r.f0,.int .i64 r.f1,.int .i64 r.f2,.bool r.f3,.bool r.f4,.slice A5 r.f5.length c5] : List Value)[i]? = some u → ∃ ad,B1 = some ad ∧ wr.cell? (ad.add (x.toNat * 6 + i)) = some u := fun i u hi hu => by
    refine hcl _ u ?_
    rw [← hcs,List.getElem?_take,if_pos (by exact hi),List.getElem?_drop] at hu
    have e1 : (xk.drop (x.toNat * 6))[i]? = (xs.drop (x.toNat * 6))[i]? := by rw [HT.out]
    rw [List.getElem?_drop,List.getElem?_drop] at e1
    rw [e1]
    exact hu
   rcases HR.out.rowForm with ⟨eB,hz, -⟩ | ⟨g1,cap1, -, -, -,eB, -⟩
   ·exact absurd hz (by omega)
   ·cases eB
    have hc6 : ∀ (i : Nat) (u : Value),i < 6 → ([.int .i64 r.f0,.int .i64 r.f1,.int .i64 r.f2,.bool r.f3,.bool r.f4,.slice A5 r.f5.length c5] : List Value)[i]? = some u → wr.cell? ⟨g1,x.toNat * 6 + i,none⟩ = some u := fun i u hi hu => by
     obtain ⟨ad,e,hc⟩ := hat i u hi hu
     cases e
     rwa [Sep.add_plain] at hc
    have d0 := hc6 0 _ (by decide) rfl
    have d1 := hc6 1 _ (by decide) rfl
    have d2 := hc6 2 _ (by decide) rfl
    have d3 := hc6 3 _ (by decide) rfl
    have d4 := hc6 4 _ (by decide) rfl
    have d5 := hc6 5 _ (by decide) rfl
    rw [Nat.add_zero] at d0
    generalize hgx : wr.heap.size = gx
    have H4 := Lib.hid (alloc_at (n := gx) HR.out (.cells #[.int .i64 r.f0,.int .i64 r.f1,.int .i64 r.f2,.bool r.f3,.bool r.f4,.slice A5 r.f5.length c5] 33) hgx.symm)
    have p126 := eq_true hx0
    have q126 : (x < (l.length : Int)) = True := eq_true hlt
    clear hat hcl hc6 hcs
    go_wp2_with fail
    refine wp_region_held_drew (S := (fun W => W.cell? ⟨g,5,none⟩ = some (.slice (some ⟨g1,0,none⟩) l.length p1) ∧ W.cell? ⟨gx,0,none⟩ = some (.int .i64 r.f0) ∧ W.cell? ⟨gx,1,none⟩ = some (.int .i64 r.f1) ∧ W.cell? ⟨gx,2,none⟩ = some (.int .i64 r.f2) ∧ W.cell? ⟨gx,3,none⟩ = some (.bool r.f3) ∧ W.cell? ⟨gx,4,none⟩ = some (.bool r.f4) ∧ W.cell? ⟨gx,5,none⟩ = some (.slice A5 r.f5.length c5))) (by kernel_rfl) ?_ (fun hHeld => ?_)
    ·exact ⟨(H4.out).drop.drop.drop.cell 5 rfl,(H4.out).cell 0 rfl,(H4.out).cell 1 rfl,(H4.out).cell 2 rfl,(H4.out).cell 3 rfl,(H4.out).cell 4 rfl,(H4.out).cell 5 rfl⟩
    refine wpAnyH_take (i := 0) (oi := ⟨some 17,.fieldAddr 33 (.tmp 1) 5,0,"scope.go:76",#[],none⟩) (v := ?_) rfl (by kernel_rfl) (by kernel_rfl) (by kernel_rfl) (fun _ _ _ h => h) (Or.inl ⟨by rfl, ?_⟩) (by assumption) ?_; rotate_left 1; · (intro w _; go_simp; all_goals with_reducible rfl)
    try simp only [Act.put,q3]
    refine wpAnyH_take (i := 1) (oi := ⟨some 18,.load 31 (.tmp 17),31,"scope.go:76",#[⟨0,.data⟩],none⟩) (v := ?_) rfl (by kernel_rfl) (by kernel_rfl) (by kernel_rfl) (fun _ _ _ h => h) (Or.inl ⟨by rfl, ?_⟩) (by assumption) ?_; rotate_left 1; · (intro w hSw; (try dsimp only at hSw); go_simp; all_goals with_reducible rfl)
    try simp only [Act.put,q3]
    refine wpAnyH_take (i := 2) (oi := ⟨some 19,.move (.tmp 3),3,"scope.go:76",#[],none⟩) (v := ?_) rfl (by kernel_rfl) (by kernel_rfl) (by kernel_rfl) (fun _ _ _ h => h) (Or.inl ⟨by rfl, ?_⟩) (by assumption) ?_; rotate_left 1; · (intro w _; go_simp; all_goals with_reducible rfl)
    try simp only [Act.put,q3]
    refine wpAnyH_take (i := 3) (oi := ⟨some 20,.load 33 (.tmp 4),33,"scope.go:76",#[],none⟩) (v := ?_) rfl (by kernel_rfl) (by kernel_rfl) (by kernel_rfl) (fun _ _ _ h => h) (Or.inl ⟨by rfl, ?_⟩) (by assumption) ?_; rotate_left 1; · (intro w hSw; (try dsimp only at hSw); go_simp; all_goals with_reducible rfl)
    try simp only [Act.put,q3]
    refine wpAnyH_ready (rs := [4]) (by kernel_rfl) (by simp) ?_
    refine AllReadyH.cons (o := ⟨some 21,.call { callee := .value (.func 34),args := #[.tmp 20],argTypes := #[33] },33,"scope.go:76",#[⟨3,.data⟩],none⟩) rfl (fun K hK => ?_) AllReadyH.nil
    go_simp
    go_at_call 34
    refine (HA.out.2.2.2 _ _ r A5 c5 H4.out.drew hr5 hrC (HA.out.2.2.1 r hrm) (HA.out.2.1 r hrm)).mono ?_
    rintro e w5 ⟨A6,c6,rfl,h5⟩
    refine hK.out _ _ ?_ (fun hHeld => ?_)
    ·exact ⟨(h5).drop.drop.drop.drop.cell 5 rfl,(h5).drop.cell 0 rfl,(h5).drop.cell 1 rfl,(h5).drop.cell 2 rfl,(h5).drop.cell 3 rfl,(h5).drop.cell 4 rfl,(h5).drop.cell 5 rfl⟩
    clear hK K
    try simp only [Act.put,q3]
    refine wpAnyH_take (i := 5) (oi := ⟨some 22,.indexAddr 31 (.tmp 18) (.tmp 19),0,"scope.go:76",#[⟨1,.data⟩,⟨2,.data⟩,⟨0,.phase⟩,⟨1,.phase⟩,⟨2,.phase⟩,⟨3,.phase⟩,⟨4,.phase⟩],none⟩) (v := ?_) rfl (by kernel_rfl) (by kernel_rfl) (by kernel_rfl) (fun _ _ _ h => h) (Or.inl ⟨by rfl, ?_⟩) (by assumption) ?_; rotate_left 1; · (intro w _; go_simp; all_goals with_reducible rfl)
    try simp only [Act.put,q3]
    refine wpAnyH_ready (rs := [6]) (by kernel_rfl) (by simp) ?_
    refine AllReadyH.cons (o := ⟨none,.store 33 (.tmp 22) (.tmp 21),0,"scope.go:76",#[⟨5,.data⟩,⟨4,.data⟩,⟨4,.chain⟩,⟨0,.phase⟩,⟨1,.phase⟩,⟨2,.phase⟩,⟨3,.phase⟩,⟨4,.phase⟩],none⟩) rfl (fun K hK => ?_) AllReadyH.nil
    refine step_store_row (by rfl) (ty := 33) (by rfl) (x.toNat * 6) [.int .i64 r.f0,.int .i64 r.f1,.int .i64 r.f2,.bool r.f3,.bool r.f4,.slice A6 r.f5.length c6] (by rfl) (by rfl) rfl (by kernel_rfl) (by simp [Value.oneCell']) h5.three (by simp only [List.length_cons,List.length_nil]; omega) ?_
    intro w6 h6
    refine hK.out _ _ ?_ (fun hHeld => ?_)
    ·exact ⟨(h6).drop.drop.drop.drop.cell 5 rfl,(h6).drop.drop.cell 0 rfl,(h6).drop.drop.cell 1 rfl,(h6).drop.drop.cell 2 rfl,(h6).drop.drop.cell 3 rfl,(h6).drop.drop.cell 4 rfl,(h6).drop.drop.cell 5 rfl⟩
    clear hK K
    try simp only [Act.put]
    refine wpAnyH_done (by kernel_rfl) ?_ _
    have h7 := (Vw.map (Vw.join h6.three.drop.three.three) (q := fun W => Reps (kCon.K W) 6 l (xk.take (x.toNat * 6) ++ ([.int .i64 r.f0,.int .i64 r.f1,.int .i64 r.f2,.bool r.f3,.bool r.f4,.slice A6 r.f5.length c6] : List Value) ++ xk.drop (x.toNat * 6 + 6))) fun wv _ hq => reps_set hq.2 HG.out (PScopeResolves.k33_mk wv r hq.1.1 hq.1.2) rfl).two
    have H7 := Lib.hid h7
    have e1 : (x + 1).toNat = x.toNat + 1 := by omega
    have HT2 : Hid ((xk.take (x.toNat * 6) ++ ([.int .i64 r.f0,.int .i64 r.f1,.int .i64 r.f2,.bool r.f3,.bool r.f4,.slice A6 r.f5.length c6] : List Value) ++ xk.drop (x.toNat * 6 + 6)).drop ((x + 1).toNat * 6) = xs.drop ((x + 1).toNat * 6)) := Lib.hid (by
     rw [e1]
     exact set_behind HT.out rfl (by rw [hxkl]; exact hle))
    clear h7 h6 h5 d0 d1 d2 d3 d4 d5 e1
    go_wp2
    exact ⟨⟨x + 1,_,by omega,by omega,by go_num,H7,HT2⟩,by simp only [intOf]; omega⟩
  ·have hlt' : (x < (l.length : Int)) = False := eq_false hlt
   have hb := HR.out.three
   have d0 := hb.cell 0 rfl
   have d1 := hb.cell 1 rfl
   have d2 := hb.cell 2 rfl
   have d3 := hb.cell 3 rfl
   have d4 := hb.cell 4 rfl
   have d5 := hb.cell 5 rfl
   have hc := HR.out.drop.drop.drop
   have c0 := hc.cell 0 rfl
   have f0 := hc.free 0 (.inr (Nat.le_refl _))
   have c1 := hc.cell 1 rfl
   have f1 := hc.free 1 (.inr (Nat.le_refl _))
   have c2 := hc.cell 2 rfl
   have f2 := hc.free 2 (.inr (Nat.le_refl _))
   have c3 := hc.cell 3 rfl
   have f3 := hc.free 3 (.inr (Nat.le_refl _))
   have c4 := hc.cell 4 rfl
   have f4 := hc.free 4 (.inr (Nat.le_refl _))
   have c5 := hc.cell 5 rfl
   have f5 := hc.free 5 (.inr (Nat.le_refl _))
   have h8 := ((((((HR.out.three.drop.three.set 0 (.int .i64 k)).set 1 (.int .i64 lo)).set 2 (.int .i64 hi)).set 3 (.bool lw)).set 4 (.bool hh)).set 5 (.slice B1 l.length p1))
   have H8 := Lib.hid h8
   clear h8 hb hc
   go_wp2
   refine bodyPost_ret (v := .agg #[.int .i64 k,.int .i64 lo,.int .i64 hi,.bool lw,.bool hh,.slice B1 l.length p1]) (results_cell_row rfl _ _ (g + 1) _ _ (0,0) _ rfl H8.out.block Tryz.underlying33 rfl (by kernel_rfl)) rfl ⟨B1,p1,rfl, ?_⟩
   exact Vw.map (Vw.row (d := kCon) (by decide) rfl H8.out.drop) fun wv _ ⟨A,c,e,h1,_,h3⟩ => by cases e; exact ⟨h1,h3⟩
theorem copy_con_at (n : Nat) : ConCopy w0 n := by
 induction n with
 | zero => exact copy_con 0 (fun m e => by cases e)
 | succ n ih => exact copy_con (n + 1) (fun m e => by cases e; exact ih)
end Go.Proofs.YtbjddomocggjmaaGreat.Sc
end
