/- Upper, Lower of the reference of layer 7: walked. -/
import Derived.Test.YtbjddomocggjmaaGreatLI
namespace Go.Proofs.YtbjddomocggjmaaGreat.Sc
open Go.RowKit Go.ChangeShapes Go.WideShapes Go.Proofs.YtbjddomocggjmaaGreat.Sep
open Go.Proofs.YtbjddomocggjmaaGreatW.PrintWords
variable {B : Nat} {w0 w : World} {R : HP}
set_option maxHeartbeats 4000000 in
theorem rupper_calls (s : ByteArray) (w : World) (hs : s.size ≤ M) : Calls Tryz.prog 67 #[.string s] w fun e w' => e = .returned (.bool (upperB s.data.toList)) ∧ w = w' := by
 have HW := Lib.hid (rword_calls s w hs)
 have hs' : s.size ≤ 140737488355328 := hs
 by_cases h0 : s.size = 0
 ·have p0 : decide (0 < s.size) = false := decide_eq_false (by omega)
  have p0' : (0 < s.size) = False := eq_false (by omega)
  have HZ : Hid (upperB s.data.toList = false) := Lib.hid (by
   have e : s.data.toList = [] := List.eq_nil_of_length_eq_zero (by rw [size_list]; exact h0)
   rw [e]; rfl)
  clear h0
  go_enter Tryz.func67,Tryz.ntmps67
  go_wp2
  go_ret
  exact ⟨by rw [HZ.out]; rfl,rfl⟩
 have h1 : 0 < s.size := by omega
 have p0 : decide (0 < s.size) = true := decide_eq_true h1
 have p0' : (0 < s.size) = True := eq_true h1
 have hh : headI s.data.toList = ((s[0]'h1).toNat : Int) := by
  have h2 : s.data.toList[0]? = some (s[0]'h1) := by
   rw [Array.getElem?_toList]
   exact Array.getElem?_eq_getElem h1
  cases hl : s.data.toList with
  | nil => rw [hl] at h2; cases h2
  | cons a r => rw [hl] at h2; cases h2; rfl
 have HH := Lib.hid hh
 clear hh
 go_enter Tryz.func67,Tryz.ntmps67
 go_wp2_with fail
 refine HW.out.mono ?_
 rintro e w1 ⟨⟨m,rfl,hm⟩,rfl⟩
 rw [decide_eq_true h1,Bool.true_and] at hm
 by_cases hq : m = s.size
 ·have p1 : (m == (s.size : Int)) = true := beq_iff_eq.2 hq
  rw [decide_eq_true hq] at hm
  have HM := Lib.hid hm
  subst hq
  clear hm
  by_cases hc : ((s[0]'h1).toNat : Int) < 97
  ·have p2 : decide (((s[0]'h1).toNat : Int) < 97) = true := decide_eq_true hc
   have p2' : (((s[0]'h1).toNat : Int) < 97) = True := eq_true hc
   have HZ : Hid (upperB s.data.toList = true) := Lib.hid (by unfold upperB; rw [← HM.out,HH.out,p2]; rfl)
   go_wp2
   go_ret
   exact ⟨by rw [HZ.out]; rfl,rfl⟩
  ·have p2 : decide (((s[0]'h1).toNat : Int) < 97) = false := decide_eq_false hc
   have p2' : (((s[0]'h1).toNat : Int) < 97) = False := eq_false hc
   have HZ : Hid (upperB s.data.toList = false) := Lib.hid (by unfold upperB; rw [← HM.out,HH.out,p2]; rfl)
   go_wp2
   go_ret
   exact ⟨by rw [HZ.out]; rfl,rfl⟩
 ·have p1 : (m == (s.size : Int)) = false := beq_eq_false_iff_ne.2 hq
  rw [decide_eq_false hq] at hm
  have HZ : Hid (upperB s.data.toList = false) := Lib.hid (by unfold upperB; rw [← hm]; rfl)
  clear hm hq
  go_wp2
  go_ret
  exact ⟨by rw [HZ.out]; rfl,rfl⟩
set_option maxHeartbeats 4000000 in
theorem rlower_calls (s : ByteArray) (w : World) (hs : s.size ≤ M) : Calls Tryz.prog 99 #[.string s] w fun e w' => e = .returned (.bool (lowerB s.data.toList)) ∧ w = w' := by
 have HW := Lib.hid (rword_calls s w hs)
 have hs' : s.size ≤ 140737488355328 := hs
 by_cases h0 : s.size = 0
 ·have p0 : decide (0 < s.size) = false := decide_eq_false (by omega)
  have p0' : (0 < s.size) = False := eq_false (by omega)
  have HZ : Hid (lowerB s.data.toList = false) := Lib.hid (by
   have e : s.data.toList = [] := List.eq_nil_of_length_eq_zero (by rw [size_list]; exact h0)
   rw [e]; rfl)
  clear h0
  go_enter Tryz.func99,Tryz.ntmps99
  go_wp2
  go_ret
  exact ⟨by rw [HZ.out]; rfl,rfl⟩
 have h1 : 0 < s.size := by omega
 have p0 : decide (0 < s.size) = true := decide_eq_true h1
 have p0' : (0 < s.size) = True := eq_true h1
 have hh : headI s.data.toList = ((s[0]'h1).toNat : Int) := by
  have h2 : s.data.toList[0]? = some (s[0]'h1) := by
   rw [Array.getElem?_toList]
   exact Array.getElem?_eq_getElem h1
  cases hl : s.data.toList with
  | nil => rw [hl] at h2; cases h2
  | cons a r => rw [hl] at h2; cases h2; rfl
 have HH := Lib.hid hh
 clear hh
 go_enter Tryz.func99,Tryz.ntmps99
 go_wp2_with fail
 refine HW.out.mono ?_
 rintro e w1 ⟨⟨m,rfl,hm⟩,rfl⟩
 rw [decide_eq_true h1,Bool.true_and] at hm
 by_cases hq : m = s.size
 ·have p1 : (m == (s.size : Int)) = true := beq_iff_eq.2 hq
  rw [decide_eq_true hq] at hm
  have HM := Lib.hid hm
  subst hq
  clear hm
  by_cases hc : (97 : Int) ≤ (s[0]'h1).toNat
  ·have p2 : decide ((97 : Int) ≤ (s[0]'h1).toNat) = true := decide_eq_true hc
   have p2' : ((97 : Int) ≤ (s[0]'h1).toNat) = True := eq_true hc
   have HZ : Hid (lowerB s.data.toList = true) := Lib.hid (by unfold lowerB; rw [← HM.out,HH.out,p2]; rfl)
   go_wp2
   go_ret
   exact ⟨by rw [HZ.out]; rfl,rfl⟩
  ·have p2 : decide ((97 : Int) ≤ (s[0]'h1).toNat) = false := decide_eq_false hc
   have p2' : ((97 : Int) ≤ (s[0]'h1).toNat) = False := eq_false hc
   have HZ : Hid (lowerB s.data.toList = false) := Lib.hid (by unfold lowerB; rw [← HM.out,HH.out,p2]; rfl)
   go_wp2
   go_ret
   exact ⟨by rw [HZ.out]; rfl,rfl⟩
 ·have p1 : (m == (s.size : Int)) = false := beq_eq_false_iff_ne.2 hq
  rw [decide_eq_false hq] at hm
  have HZ : Hid (lowerB s.data.toList = false) := Lib.hid (by unfold lowerB; rw [← hm]; rfl)
  clear hm hq
  go_wp2
  go_ret
  exact ⟨by rw [HZ.out]; rfl,rfl⟩
end Go.Proofs.YtbjddomocggjmaaGreat.Sc
