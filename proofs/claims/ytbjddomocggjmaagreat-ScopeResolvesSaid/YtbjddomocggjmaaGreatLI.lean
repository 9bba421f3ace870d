/- Word of the reference of layer 7: walked. -/
import Derived.Test.YtbjddomocggjmaaGreatLF
section
namespace Go.Proofs.YtbjddomocggjmaaGreat.Sc
open Go.RowKit Go.ChangeShapes Go.WideShapes Go.Proofs.YtbjddomocggjmaaGreat.Sep
open Go.Proofs.YtbjddomocggjmaaGreatW.PrintWords
variable {B : Nat} {w0 w : World} {R : HP}
theorem rdigit_calls (c : Int) (w : World) : Calls Tryz.prog 97 #[.int .u8 c] w fun e w' => e = .returned (.bool (digitI c)) ∧ w = w' := by
 by_cases h1 : 48 ≤ c
 ·have d1 : decide (48 ≤ c) = true := decide_eq_true h1
  have e1 : (48 ≤ c) = True := eq_true h1
  by_cases h2 : c ≤ 57
  ·have d2 : decide (c ≤ 57) = true := decide_eq_true h2
   have e2 : (c ≤ 57) = True := eq_true h2
   have HD : Hid (digitI c = true) := Lib.hid (decide_eq_true ⟨h1,h2⟩)
   go_enter Tryz.func97,Tryz.ntmps97
   go_wp2
   go_ret
   exact ⟨by rw [HD.out]; rfl,rfl⟩
  ·have d2 : decide (c ≤ 57) = false := decide_eq_false h2
   have e2 : (c ≤ 57) = False := eq_false h2
   have HD : Hid (digitI c = false) := Lib.hid (decide_eq_false fun h => h2 h.2)
   go_enter Tryz.func97,Tryz.ntmps97
   go_wp2
   go_ret
   exact ⟨by rw [HD.out]; rfl,rfl⟩
 ·have d1 : decide (48 ≤ c) = false := decide_eq_false h1
  have e1 : (48 ≤ c) = False := eq_false h1
  have HD : Hid (digitI c = false) := Lib.hid (decide_eq_false fun h => h1 h.1)
  go_enter Tryz.func97,Tryz.ntmps97
  go_wp2
  go_ret
  exact ⟨by rw [HD.out]; rfl,rfl⟩
theorem rletter_calls (c : Int) (w : World) : Calls Tryz.prog 96 #[.int .u8 c] w fun e w' => e = .returned (.bool (letterI c)) ∧ w = w' := by
 have HD : Hid (letterI c = (decide (97 ≤ c) && decide (c ≤ 122) || decide (65 ≤ c) && decide (c ≤ 90))) := Lib.hid (by unfold letterI; rw [Bool.eq_iff_iff]; simp)
 cases d1 : decide (97 ≤ c) <;> cases d2 : decide (c ≤ 122) <;> cases d3 : decide (65 ≤ c) <;> cases d4 : decide (c ≤ 90)
 all_goals
  rw [d1,d2,d3,d4] at HD
  go_enter Tryz.func96,Tryz.ntmps96
  go_wp2
  go_ret
  exact ⟨by rw [HD.out]; rfl,rfl⟩
end Go.Proofs.YtbjddomocggjmaaGreat.Sc
end
section
namespace Go.Proofs.YtbjddomocggjmaaGreat.Sc
open Go.RowKit Go.ChangeShapes Go.WideShapes Go.Proofs.YtbjddomocggjmaaGreat.Sep
open Go.Proofs.YtbjddomocggjmaaGreatW.PrintWords
variable {B : Nat} {w0 w : World} {R : HP}
open Go.Proofs.YtbjddomocggjmaaGreatW.PrintWords
theorem rest_step {l : List UInt8} {n : Nat} {c : UInt8} (h : l[n]? = some c) : restB (l.drop n) = if al c then restB (l.drop (n + 1)) else if c = 45 then (match l.drop (n + 1) with | [] => false | d :: _ => al d && restB (l.drop (n + 1))) else false := by
 have hl := (List.getElem?_eq_some_iff.1 h).1
 rw [List.drop_eq_getElem_cons hl]
 rw [List.getElem?_eq_getElem hl] at h
 rw [Option.some.inj h]
 rfl
set_option maxHeartbeats 4000000 in
theorem rword_calls (s : ByteArray) (w : World) (hs : s.size ≤ M) :
  Calls Tryz.prog 81 #[.string s] w fun e w' => (∃ m : Int,e = .returned (.int .i64 m) ∧ (decide (0 < s.size) && decide (m = s.size)) = wholeB s.data.toList) ∧ w = w' := by
 have hs' : s.size ≤ 140737488355328 := hs
 by_cases h0 : s.size = 0
 ·have p0 : ((s.size : Int) == 0) = true := beq_iff_eq.2 (by omega)
  have HZ : Hid (wholeB s.data.toList = false) := Lib.hid (by
   have e : s.data.toList = [] := List.eq_nil_of_length_eq_zero (by rw [size_list]; exact h0)
   rw [e]; rfl)
  go_enter Tryz.func81,Tryz.ntmps81
  go_wp2
  go_ret
  exact ⟨⟨_,rfl,by rw [HZ.out,decide_eq_false (by omega)]; rfl⟩,rfl⟩
 have p0 : ((s.size : Int) == 0) = false := beq_eq_false_iff_ne.2 (by omega)
 have p1 : (0 : Int) < s.size := by omega
 go_enter Tryz.func81,Tryz.ntmps81
 have hat : ∀ (n : Nat) (h : n < s.size),s.data.toList[n]? = some (s[n]'h) := fun n h => by
  rw [Array.getElem?_toList]
  exact Array.getElem?_eq_getElem h
 have hw : wholeB s.data.toList = (letterI (s[0]'(by omega)).toNat && restB (s.data.toList.drop 1)) := by
  have h1 := hat 0 (by omega)
  cases hl : s.data.toList with
  | nil => rw [hl] at h1; cases h1
  | cons a r => rw [hl] at h1; cases h1; rfl
 have HW := Lib.hid (And.intro hw hat)
 clear hw hat
 go_wp2_with fail
 refine (rletter_calls _ _).mono ?_
 rintro e w1 ⟨rfl,rfl⟩
 cases hq : letterI (s[0]'(by omega)).toNat with
 | false =>
  have HZ : Hid (wholeB s.data.toList = false) := Lib.hid (by rw [HW.out.1,hq]; rfl)
  go_wp2
  go_ret
  exact ⟨⟨_,rfl,by rw [HZ.out,decide_eq_false (show ¬ (0 : Int) = s.size by omega),Bool.and_false]⟩,rfl⟩
 | true =>
  have HZ : Hid (wholeB s.data.toList = restB (s.data.toList.drop 1)) := Lib.hid (by rw [HW.out.1,hq]; rfl)
  go_wp2
  go_loop [3] (fun v => ∃ x : Int,1 ≤ x ∧ x ≤ s.size ∧ v = .int .i64 x ∧ Hid (wholeB s.data.toList = restB (s.data.toList.drop x.toNat))) (fun v => s.size - (intOf v).toNat)
  case atStart => exact ⟨1,Int.le_refl _,by omega,rfl,HZ⟩
  case round =>
   clear HZ hq
   obtain ⟨x,hx0,hx1,rfl,HX⟩ := hrel
   by_cases hlt : x < s.size
   ·have q1 : (x < (s.size : Int)) = True := eq_true hlt
    have q0 : (0 ≤ x) = True := eq_true (by omega)
    have hn : x.toNat < s.size := by omega
    have e1 : (x + 1).toNat = x.toNat + 1 := by omega
    have hst := rest_step (HW.out.2 x.toNat hn)
    go_wp2_with fail
    refine (rletter_calls _ _).mono ?_
    rintro e w1 ⟨rfl,rfl⟩
    cases hl : letterI (s[x.toNat]'hn).toNat with
    | true =>
     have HY : Hid (wholeB s.data.toList = restB (s.data.toList.drop (x + 1).toNat)) := Lib.hid (by rw [HX.out,hst,e1,if_pos (by unfold al; rw [hl]; rfl)])
     clear hst
     go_wp2
     exact ⟨⟨x + 1,by omega,by omega,by go_num,HY⟩,by simp only [intOf]; omega⟩
    | false =>
     go_wp2_with fail
     refine (rdigit_calls _ _).mono ?_
     rintro e w1 ⟨rfl,rfl⟩
     cases hd : digitI (s[x.toNat]'hn).toNat with
     | true =>
      have HY : Hid (wholeB s.data.toList = restB (s.data.toList.drop (x + 1).toNat)) := Lib.hid (by rw [HX.out,hst,e1,if_pos (by unfold al; rw [hd,Bool.or_true])])
      clear hst
      go_wp2
      exact ⟨⟨x + 1,by omega,by omega,by go_num,HY⟩,by simp only [intOf]; omega⟩
     | false =>
      have hal : al (s[x.toNat]'hn) = false := by unfold al; rw [hl,hd]; rfl
      rw [if_neg (by rw [hal]; simp)] at hst
      by_cases h45 : (s[x.toNat]'hn) = 45
      ·have p45 : (((s[x.toNat]'hn).toNat : Int) == 45) = true := by rw [h45]; rfl
       rw [if_pos h45] at hst
       by_cases hn1 : x + 1 < s.size
       ·have q2 : (x + 1 < (s.size : Int)) = True := eq_true hn1
        have q3 : (0 ≤ x + 1) = True := eq_true (by omega)
        have q4 : (x + 1 == (s.size : Int)) = false := beq_eq_false_iff_ne.2 (by omega)
        have hm : x.toNat + 1 < s.size := by omega
        have hst2 : restB (s.data.toList.drop x.toNat) = (al (s[x.toNat + 1]'hm) && restB (s.data.toList.drop (x.toNat + 1))) := by
         rw [hst]
         have hd2 := HW.out.2 (x.toNat + 1) hm
         have hl2 := (List.getElem?_eq_some_iff.1 hd2).1
         rw [List.drop_eq_getElem_cons hl2]
         rw [List.getElem?_eq_getElem hl2] at hd2
         rw [Option.some.inj hd2]
        clear hst
        by_cases hd45 : (s[x.toNat + 1]'hm) = 45
        ·have p46 : (((s[x.toNat + 1]'hm).toNat : Int) == 45) = true := by rw [hd45]; rfl
         have HY : Hid (wholeB s.data.toList = false) := Lib.hid (by rw [HX.out,hst2,hd45]; rfl)
         clear hst2
         go_wp2
         go_ret
         exact ⟨⟨_,rfl,by rw [HY.out]; first | exact decide_eq_false (by omega) | rw [decide_eq_false (by omega : ¬ (_ : Int) = s.size),Bool.and_false]⟩,rfl⟩
        ·have p46 : (((s[x.toNat + 1]'hm).toNat : Int) == 45) = false := beq_eq_false_iff_ne.2 (fun h => hd45 (UInt8.toNat_inj.1 (by simpa using (by omega : (s[x.toNat + 1]'hm).toNat = 45))))
         go_wp2_with fail
         refine (rletter_calls _ _).mono ?_
         rintro e w1 ⟨rfl,rfl⟩
         cases hl2 : letterI (s[x.toNat + 1]'hm).toNat with
         | true =>
          have HY : Hid (wholeB s.data.toList = restB (s.data.toList.drop (x + 1).toNat)) := Lib.hid (by rw [HX.out,hst2,e1,show al (s[x.toNat + 1]'hm) = true by unfold al; rw [hl2]; rfl,Bool.true_and])
          clear hst2
          go_wp2
          exact ⟨⟨x + 1,by omega,by omega,by go_num,HY⟩,by simp only [intOf]; omega⟩
         | false =>
          go_wp2_with fail
          refine (rdigit_calls _ _).mono ?_
          rintro e w1 ⟨rfl,rfl⟩
          cases hg2 : digitI (s[x.toNat + 1]'hm).toNat with
          | true =>
           have HY : Hid (wholeB s.data.toList = restB (s.data.toList.drop (x + 1).toNat)) := Lib.hid (by rw [HX.out,hst2,e1,show al (s[x.toNat + 1]'hm) = true by unfold al; rw [hg2,Bool.or_true],Bool.true_and])
           clear hst2
           go_wp2
           exact ⟨⟨x + 1,by omega,by omega,by go_num,HY⟩,by simp only [intOf]; omega⟩
          | false =>
           have HY : Hid (wholeB s.data.toList = false) := Lib.hid (by rw [HX.out,hst2,show al (s[x.toNat + 1]'hm) = false by unfold al; rw [hl2,hg2]; rfl,Bool.false_and])
           clear hst2
           go_wp2
           go_ret
           exact ⟨⟨_,rfl,by rw [HY.out]; first | exact decide_eq_false (by omega) | rw [decide_eq_false (by omega : ¬ (_ : Int) = s.size),Bool.and_false]⟩,rfl⟩
       ·have q2 : (x + 1 < (s.size : Int)) = False := eq_false hn1
        have q4 : (x + 1 == (s.size : Int)) = true := beq_iff_eq.2 (by omega)
        have HY : Hid (wholeB s.data.toList = false) := Lib.hid (by rw [HX.out,hst,List.drop_of_length_le (by rw [size_list]; omega)])
        clear hst
        go_wp2
        go_ret
        exact ⟨⟨_,rfl,by rw [HY.out]; first | exact decide_eq_false (by omega) | rw [decide_eq_false (by omega : ¬ (_ : Int) = s.size),Bool.and_false]⟩,rfl⟩
      ·have p45 : (((s[x.toNat]'hn).toNat : Int) == 45) = false := beq_eq_false_iff_ne.2 (fun h => h45 (UInt8.toNat_inj.1 (by simpa using (by omega : (s[x.toNat]'hn).toNat = 45))))
       have p45' : (((s[x.toNat]'hn).toNat : Int) = 45) = False := eq_false (fun h => h45 (UInt8.toNat_inj.1 (by simpa using (by omega : (s[x.toNat]'hn).toNat = 45))))
       have HY : Hid (wholeB s.data.toList = false) := Lib.hid (by rw [HX.out,hst,if_neg h45])
       clear hst
       go_wp2
       go_ret
       exact ⟨⟨_,rfl,by rw [HY.out]; first | exact decide_eq_false (by omega) | rw [decide_eq_false (by omega : ¬ (_ : Int) = s.size),Bool.and_false]⟩,rfl⟩
   ·have hlt' : (x < (s.size : Int)) = False := eq_false hlt
    have HY : Hid (wholeB s.data.toList = true) := Lib.hid (by rw [HX.out,List.drop_of_length_le (by rw [size_list]; omega)]; rfl)
    go_wp2
    go_ret
    exact ⟨⟨_,rfl,by rw [HY.out]; exact decide_eq_true (by omega)⟩,rfl⟩
end Go.Proofs.YtbjddomocggjmaaGreat.Sc
end
