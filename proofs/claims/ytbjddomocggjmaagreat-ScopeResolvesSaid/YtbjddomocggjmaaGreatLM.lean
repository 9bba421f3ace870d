/- printable, def of the reference of layer 8: walked. -/
import Derived.Deep.QuietTactic
import Derived.Test.YtbjddomocggjmaaGreatLH
import Derived.Test.YtbjddomocggjmaaGreatLL
section
namespace Go.Proofs.YtbjddomocggjmaaGreat.Sc
open Go.RowKit Go.ChangeShapes Go.WideShapes Go.Proofs.YtbjddomocggjmaaGreat.Sep
open Go.Proofs.YtbjddomocggjmaaGreatW.PrintWords
variable {B : Nat} {w0 w : World} {R : HP}
def noS (s : ByteArray) : Bool := s.toList == ([] : List UInt8)
def valB (v : Val) : Bool :=
 if 0 < v.f3.length + v.f4.length then false
 else if v.f0 = 1 then noS v.f2 && (decide (v.f1 = 0) || decide (v.f1 = 1))
 else if v.f0 = 2 then noS v.f2 && decide (v.f1 ≠ least)
 else if v.f0 = 3 then decide (v.f1 = 0) && lowerB v.f2.data.toList
 else decide (v.f0 = 7) && (decide (v.f1 = 0) && printB v.f2)
set_option maxHeartbeats 4000000 in
set_option maxRecDepth 100000 in
theorem def_calls (v : Val) (A3 : Option Addr) (c3 : Nat) (A4 : Option Addr) (c4 : Nat) (h : St B w0 w R) (ho : oV 1 v) :
  Calls Tryz.prog 105 #[.agg #[.int .i64 v.f0,.int .i64 v.f1,.string v.f2,.slice A3 v.f3.length c3,.slice A4 v.f4.length c4]] w fun e w' => e = .returned (.bool (valB v)) ∧ St B w0 w' R := by
 obtain ⟨k,n,s,l3,l4⟩ := v
 obtain ⟨-, -,os,o3, -,o4, -⟩ := ho
 have o3' : l3.length ≤ 140737488355328 := o3
 have o4' : l4.length ≤ 140737488355328 := o4
 show Calls Tryz.prog 105 #[.agg #[.int .i64 k,.int .i64 n,.string s,.slice A3 l3.length c3,.slice A4 l4.length c4]] w fun e w' => e = .returned (.bool (if 0 < l3.length + l4.length then false
  else if k = 1 then noS s && (decide (n = 0) || decide (n = 1)) else if k = 2 then noS s && decide (n ≠ least) else if k = 3 then decide (n = 0) && lowerB s.data.toList else decide (k = 7) && (decide (n = 0) && printB s))) ∧ St B w0 w' R
 have H := Lib.hid (h.alloc (.cells #[.int .i64 k,.int .i64 n,.string s,.slice A3 l3.length c3,.slice A4 l4.length c4] 109))
 have HL := Lib.hid (fun (W : World) (Q : HP) (h : St B w0 W Q) => lower_calls s h os)
 have HP := Lib.hid (fun (W : World) (Q : HP) (h : St B w0 W Q) => printable_calls s h os)
 have b0 := H.out.cell 0 rfl
 have b1 := H.out.cell 1 rfl
 have b2 := H.out.cell 2 rfl
 have b3 := H.out.cell 3 rfl
 have b4 := H.out.cell 4 rfl
 clear h os o3 o4
 by_cases z : 0 < l3.length + l4.length
 ·have z1 : decide (0 < (l3.length : Int) + (l4.length : Int)) = true := decide_eq_true (by omega)
  rw [if_pos z]
  clear z
  go_enter Tryz.func105,Tryz.ntmps105
  go_wp2
  go_ret
  exact ⟨rfl,H.out.drop⟩
 have z1 : decide (0 < (l3.length : Int) + (l4.length : Int)) = false := decide_eq_false (by omega)
 rw [if_neg z]
 clear z
 by_cases k1 : k = 1
 ·subst k1
  rw [if_pos rfl]
  cases q : noS s with
  | false =>
   rw [Bool.false_and]
   unfold noS at q
   go_enter Tryz.func105,Tryz.ntmps105
   go_wp2
   go_ret
   exact ⟨rfl,H.out.drop⟩
  | true =>
   rw [Bool.true_and]
   unfold noS at q
   go_enter Tryz.func105,Tryz.ntmps105
   go_wp2
   go_ret
   rw [show (decide (n = 0) || decide (n = 1)) = (n / 2 == 0) by rw [Bool.eq_iff_iff]; simp; omega]
   exact ⟨rfl,H.out.drop⟩
 rw [if_neg k1]
 have m1 : (k == 1) = false := beq_eq_false_iff_ne.2 k1
 by_cases k2 : k = 2
 ·subst k2
  rw [if_pos rfl]
  cases q : noS s with
  | false =>
   rw [Bool.false_and]
   unfold noS at q
   go_enter Tryz.func105,Tryz.ntmps105
   go_wp2
   go_ret
   exact ⟨rfl,H.out.drop⟩
  | true =>
   rw [Bool.true_and]
   unfold noS at q
   go_enter Tryz.func105,Tryz.ntmps105
   go_wp2
   go_ret
   rw [show decide (n ≠ least) = (n != -9223372036854775808) by rw [Bool.eq_iff_iff,decide_eq_true_iff,bne_iff_ne]; rfl]
   exact ⟨rfl,H.out.drop⟩
 rw [if_neg k2]
 have m2 : (k == 2) = false := beq_eq_false_iff_ne.2 k2
 by_cases k3 : k = 3
 ·subst k3
  rw [if_pos rfl]
  by_cases n0 : n = 0
  ·have n1 : (n == 0) = true := beq_iff_eq.2 n0
   rw [decide_eq_true n0,Bool.true_and]
   clear n0
   go_enter Tryz.func105,Tryz.ntmps105
   go_wp2_with fail
   refine (HL.out _ _ H.out).mono ?_
   rintro e w2 ⟨rfl,h2⟩
   have H2 := Lib.hid h2
   clear h2 b0 b1 b2 b3 b4
   go_wp2
   go_ret
   exact ⟨rfl,H2.out.drop⟩
  ·have n1 : (n == 0) = false := beq_eq_false_iff_ne.2 n0
   rw [decide_eq_false n0,Bool.false_and]
   clear n0
   go_enter Tryz.func105,Tryz.ntmps105
   go_wp2
   go_ret
   exact ⟨rfl,H.out.drop⟩
 rw [if_neg k3]
 have m3 : (k == 3) = false := beq_eq_false_iff_ne.2 k3
 clear k1 k2 k3
 by_cases k7 : k = 7
 ·have m7 : (k == 7) = true := beq_iff_eq.2 k7
  rw [decide_eq_true k7,Bool.true_and]
  clear k7
  by_cases n0 : n = 0
  ·have n1 : (n == 0) = true := beq_iff_eq.2 n0
   rw [decide_eq_true n0,Bool.true_and]
   clear n0
   go_enter Tryz.func105,Tryz.ntmps105
   go_wp2_with fail
   refine (HP.out _ _ H.out).mono ?_
   rintro e w2 ⟨rfl,h2⟩
   have H2 := Lib.hid h2
   clear h2 b0 b1 b2 b3 b4
   go_wp2
   go_ret
   exact ⟨rfl,H2.out.drop⟩
  ·have n1 : (n == 0) = false := beq_eq_false_iff_ne.2 n0
   rw [decide_eq_false n0,Bool.false_and]
   clear n0
   go_enter Tryz.func105,Tryz.ntmps105
   go_wp2
   go_ret
   exact ⟨rfl,H.out.drop⟩
 ·have m7 : (k == 7) = false := beq_eq_false_iff_ne.2 k7
  rw [decide_eq_false k7,Bool.false_and]
  clear k7
  go_enter Tryz.func105,Tryz.ntmps105
  go_wp2
  go_ret
  exact ⟨rfl,H.out.drop⟩
end Go.Proofs.YtbjddomocggjmaaGreat.Sc
end
section
namespace Go.Proofs.YtbjddomocggjmaaGreat.Sc
open Go.RowKit Go.ChangeShapes Go.WideShapes Go.Proofs.YtbjddomocggjmaaGreat.Sep
open Go.Proofs.YtbjddomocggjmaaGreatW.PrintWords
variable {B : Nat} {w0 w : World} {R : HP}
theorem rises_iff : ∀ l : List UInt8,risesB l = true ↔ ∀ i,i + 1 < l.length → (l.getD i 0).toNat < (l.getD (i + 1) 0).toNat
 | [] => by simp [risesB]
 | [a] => by simp [risesB]
 | a :: b :: r => by
  rw [risesB,Bool.and_eq_true,rises_iff (b :: r)]
  constructor
  ·rintro ⟨h1,h2⟩ i hi
   cases i with
   | zero => simpa using h1
   | succ i => simpa using h2 i (by simpa using hi)
  ·intro h
   exact ⟨by simpa using h 0 (by simp),fun i hi => by simpa using h (i + 1) (by simpa using hi)⟩
def prsB (r : Bool) (l : List UInt8) : Bool := l.all prC && (!r || risesB l)
def prL (r : Bool) (l : List UInt8) (i : Nat) : Bool := prC (l.getD i 0) && (!r || decide (i = 0) || decide ((l.getD (i - 1) 0).toNat < (l.getD i 0).toNat))
theorem prs_all {r : Bool} {l : List UInt8} (h : ∀ i,i < l.length → prL r l i = true) : prsB r l = true := by
 unfold prsB
 rw [Bool.and_eq_true]
 refine ⟨List.all_eq_true.2 fun c hc => ?_, ?_⟩
 ·obtain ⟨i,hi,rfl⟩ := List.getElem_of_mem hc
  have := h i hi
  unfold prL at this
  rw [Bool.and_eq_true,List.getD_eq_getElem?_getD,List.getElem?_eq_getElem hi] at this
  exact this.1
 ·cases r with
  | false => rfl
  | true =>
   rw [Bool.not_true,Bool.false_or,rises_iff]
   intro i hi
   have := h (i + 1) hi
   unfold prL at this
   rw [Bool.and_eq_true] at this
   simpa using this.2
theorem prs_bad {r : Bool} {l : List UInt8} {i : Nat} (hi : i < l.length) (h : prL r l i = false) : prsB r l = false := by
 rw [Bool.eq_false_iff]
 intro hp
 unfold prsB at hp
 rw [Bool.and_eq_true] at hp
 have h1 : prC (l.getD i 0) = true := List.all_eq_true.1 hp.1 _ (by rw [List.getD_eq_getElem?_getD,List.getElem?_eq_getElem hi]; exact List.getElem_mem hi)
 unfold prL at h
 rw [h1,Bool.true_and] at h
 cases r with
 | false => cases h
 | true =>
  have h2 := (rises_iff l).1 (by simpa using hp.2)
  cases i with
  | zero => simp at h
  | succ i =>
   have := h2 i hi
   simp at h
   simp at this
   omega
set_option maxHeartbeats 16000000 in
theorem rprint_calls (s : ByteArray) (r : Bool) (h : St B w0 w R) (hs : oS s) :
  Calls Tryz.prog 85 #[.string s,.bool r] w fun e w' => e = .returned (.bool (prsB r s.data.toList)) ∧ St B w0 w' R := by
 have hs' : s.size ≤ 140737488355328 := hs
 have H := Lib.hid h
 clear h hs
 go_enter Tryz.func85,Tryz.ntmps85
 go_wp2
 go_loopw [5] (fun v wr => ∃ x : Int,0 ≤ x ∧ x ≤ s.size ∧ v = .int .i64 x ∧ Hid (St B w0 wr R) ∧ Hid (∀ i,i < x.toNat → prL r s.data.toList i = true)) (fun v _ => s.size - (intOf v).toNat)
 case atStart => exact ⟨0,Int.le_refl _,by omega,rfl,H,Lib.hid (by simp)⟩
 case round =>
  clear H
  obtain ⟨x,hx0,hx1,rfl,HR,HT⟩ := hrel
  by_cases hlt : x < s.size
  ·have hn : x.toNat < s.size := by omega
   have hnl : x.toNat < s.data.toList.length := by rw [size_list]; exact hn
   have q1 : (x < (s.size : Int)) = True := eq_true hlt
   have q0 : (0 ≤ x) = True := eq_true hx0
   have e1 : (x + 1).toNat = x.toNat + 1 := by omega
   have hg : s.data.toList.getD x.toNat 0 = s[x.toNat]'hn := by
    rw [List.getD_eq_getElem?_getD,Array.getElem?_toList,Array.getElem?_eq_getElem hn]; rfl
   have HP : Hid (prL r s.data.toList x.toNat = (!decide (((s[x.toNat]'hn).toNat : Int) < 32) && !decide (126 < ((s[x.toNat]'hn).toNat : Int)) && (!r || decide (x.toNat = 0) || decide ((s.data.toList.getD (x.toNat - 1) 0).toNat < (s[x.toNat]'hn).toNat)))) := Lib.hid (by
    unfold prL prC
    rw [hg]
    congr 1
    rw [Bool.not_or]
    congr 2 <;> exact decide_eq_decide.2 (by omega))
   have HB : Hid (prL r s.data.toList x.toNat = false → prsB r s.data.toList = false) := Lib.hid (prs_bad hnl)
   have HN : Hid (prL r s.data.toList x.toNat = true → ∀ i,i < (x + 1).toNat → prL r s.data.toList i = true) := Lib.hid (fun hp i hi => by
    rw [e1] at hi
    rcases Nat.lt_succ_iff_lt_or_eq.1 hi with hi | rfl
    ·exact HT.out i hi
    ·exact hp)
   clear hg hnl HT
   go_wp2
   by_cases a0 : ((s[x.toNat]'hn).toNat : Int) < 32
   ·have a0' := eq_true a0
    have b0 := decide_eq_true a0
    go_quiet (fail)
    go_wp2
    go_ret
    exact ⟨by rw [HB.out (by rw [HP.out,b0]; rfl)]; rfl,HR.out.drewN _⟩
   have a0' := eq_false a0
   have b0 := decide_eq_false a0
   by_cases a1 : 126 < ((s[x.toNat]'hn).toNat : Int)
   ·have a1' := eq_true a1
    have b1 := decide_eq_true a1
    go_quiet (fail)
    go_wp2
    go_ret
    exact ⟨by rw [HB.out (by rw [HP.out,b0,b1]; rfl)]; rfl,HR.out.drewN _⟩
   have a1' := eq_false a1
   have b1 := decide_eq_false a1
   cases r with
   | false =>
    have HY := Lib.hid (HN.out (by rw [HP.out,b0,b1]; rfl))
    go_quiet (fail)
    go_wp2
    exact ⟨⟨x + 1,by omega,by omega,by go_num,Lib.hid (HR.out.drewN _),HY⟩,by simp only [intOf]; omega⟩
   | true =>
    by_cases a2 : x = 0
    ·have q2 : (0 < x) = False := eq_false (by omega)
     have HY := Lib.hid (HN.out (by rw [HP.out,b0,b1,decide_eq_true (show x.toNat = 0 by omega)]; rfl))
     clear a2
     go_quiet (fail)
     go_wp2
     exact ⟨⟨x + 1,by omega,by omega,by go_num,Lib.hid (HR.out.drewN _),HY⟩,by simp only [intOf]; omega⟩
    have hx2 : 0 < x := by omega
    have q2 : (0 < x) = True := eq_true hx2
    have q3 : (0 ≤ x - 1) = True := eq_true (by omega)
    have q4 : (x - 1 < (s.size : Int)) = True := eq_true (by omega)
    have q5 : (1 ≤ x) = True := eq_true (by omega)
    have q6 : (x < (s.size : Int) + 1) = True := eq_true (by omega)
    have w1 : IntKind.i64.wrap (x - 1) = x - 1 := IntWalk.i64_in _ (by omega)
    have hm : x.toNat - 1 < s.size := by omega
    have hg : s.data.toList.getD (x.toNat - 1) 0 = s[x.toNat - 1]'hm := by
     rw [List.getD_eq_getElem?_getD,Array.getElem?_toList,Array.getElem?_eq_getElem hm]; rfl
    rw [hg] at HP
    clear hg
    by_cases a3 : ((s[x.toNat]'hn).toNat : Int) ≤ ((s[x.toNat - 1]'hm).toNat : Int)
    ·have a3' := eq_true a3
     have b3 := decide_eq_true a3
     have HZ := Lib.hid (HB.out (by rw [HP.out,b0,b1,decide_eq_false (show ¬ x.toNat = 0 by omega),decide_eq_false (show ¬ (s[x.toNat - 1]'hm).toNat < (s[x.toNat]'hn).toNat by omega)]; rfl))
     go_quiet (fail)
     go_wp2
     go_ret
     exact ⟨by rw [HZ.out]; rfl,HR.out.drewN _⟩
    ·have a3' := eq_false a3
     have b3 := decide_eq_false a3
     have HY := Lib.hid (HN.out (by rw [HP.out,b0,b1,decide_eq_false (show ¬ x.toNat = 0 by omega),decide_eq_true (show (s[x.toNat - 1]'hm).toNat < (s[x.toNat]'hn).toNat by omega)]; rfl))
     go_quiet (fail)
     go_wp2
     exact ⟨⟨x + 1,by omega,by omega,by go_num,Lib.hid (HR.out.drewN _),HY⟩,by simp only [intOf]; omega⟩
  ·have hlt' : (x < (s.size : Int)) = False := eq_false hlt
   have HZ := Lib.hid (prs_all fun i hi => HT.out i (by rw [size_list] at hi; omega))
   go_wp2
   go_ret
   exact ⟨by rw [HZ.out]; rfl,HR.out⟩
theorem prs_false (s : ByteArray) : prsB false s.data.toList = printB s := by
 unfold prsB printB
 rw [Bool.not_false,Bool.true_or,Bool.and_true]
section
variable {k n : Int} {s : ByteArray} {l3 : List ByteArray} {l4 : List Val}
theorem val_pos (h : 0 < l3.length ∨ 0 < l4.length) : valB ⟨k,n,s,l3,l4⟩ = false := if_pos (show 0 < l3.length + l4.length by omega)
theorem val_neg (h3 : ¬ 0 < l3.length) (h4 : ¬ 0 < l4.length) : valB ⟨k,n,s,l3,l4⟩ = if k = 1 then noS s && ((n == 0) || (n == 1)) else if k = 2 then noS s && (n != -9223372036854775808) else if k = 3 then (n == 0) && lowerB s.data.toList else decide (k = 7) && ((n == 0) && printB s) := by
 show (if 0 < l3.length + l4.length then false else if k = 1 then noS s && (decide (n = 0) || decide (n = 1)) else if k = 2 then noS s && decide (n ≠ least) else if k = 3 then decide (n = 0) && lowerB s.data.toList else decide (k = 7) && (decide (n = 0) && printB s)) = _
 rw [if_neg (by omega),show decide (n ≠ least) = (n != -9223372036854775808) by rw [Bool.eq_iff_iff,decide_eq_true_iff,bne_iff_ne]; rfl]
 rfl
end
set_option maxHeartbeats 16000000 in
set_option maxRecDepth 100000 in
theorem rdef_calls (v : Val) (A3 : Option Addr) (c3 : Nat) (A4 : Option Addr) (c4 : Nat) (h : St B w0 w R) (ho : oV 1 v) :
  Calls Tryz.prog 100 #[.agg #[.int .i64 v.f0,.int .i64 v.f1,.string v.f2,.slice A3 v.f3.length c3,.slice A4 v.f4.length c4]] w fun e w' => e = .returned (.bool (valB v)) ∧ St B w0 w' R := by
 obtain ⟨k,n,s,l3,l4⟩ := v
 obtain ⟨-, -,os, -⟩ := ho
 show Calls Tryz.prog 100 #[.agg #[.int .i64 k,.int .i64 n,.string s,.slice A3 l3.length c3,.slice A4 l4.length c4]] w _
 have H := Lib.hid (h.alloc (.cells #[.int .i64 k,.int .i64 n,.string s,.slice A3 l3.length c3,.slice A4 l4.length c4] 109))
 have HL := Lib.hid (fun (W : World) => rlower_calls s W os)
 have HP := Lib.hid (fun (W : World) (Q : HP) (h : St B w0 W Q) => prs_false s ▸ rprint_calls s false h os)
 have b0 := H.out.cell 0 rfl
 have b1 := H.out.cell 1 rfl
 have b2 := H.out.cell 2 rfl
 have b3 := H.out.cell 3 rfl
 have b4 := H.out.cell 4 rfl
 clear h os
 go_enter Tryz.func100,Tryz.ntmps100
 go_upto_region 1 with fail
 generalize w.alloc (.cells #[.int .i64 k,.int .i64 n,.string s,.slice A3 l3.length c3,.slice A4 l4.length c4] 109) = wx at *
 by_cases hp : 0 < l3.length ∨ 0 < l4.length
 ·have HZ := Lib.hid (val_pos (k := k) (n := n) (s := s) hp)
  revert hp
  generalize l3.length = m3 at b3 H ⊢
  generalize l4.length = m4 at b4 H ⊢
  intro hp
  by_cases h3 : 0 < m3
  ·have z3 := eq_true h3
   go_wp2
   go_ret
   exact ⟨by rw [HZ.out]; rfl,H.out.drop⟩
  ·have z3 := eq_false h3
   have z4 := eq_true (show 0 < m4 by omega)
   go_wp2
   go_ret
   exact ⟨by rw [HZ.out]; rfl,H.out.drop⟩
 have HV := Lib.hid (val_neg (k := k) (n := n) (s := s) (l3 := l3) (l4 := l4) (fun h => hp (.inl h)) (fun h => hp (.inr h)))
 revert hp
 generalize l3.length = m3 at b3 H ⊢
 generalize l4.length = m4 at b4 H ⊢
 intro hp
 have z3 := eq_false (show ¬ 0 < m3 by omega)
 have z4 := eq_false (show ¬ 0 < m4 by omega)
 clear hp
 by_cases k1 : k = 1
 ·have m1 : (k == 1) = true := beq_iff_eq.2 k1
  have HV2 := Lib.hid (HV.out.trans (if_pos k1))
  clear HV k1
  cases q : noS s with
  | false =>
   rw [q] at HV2
   unfold noS at q
   go_wp2
   go_ret
   exact ⟨by rw [HV2.out]; rfl,H.out.drop⟩
  | true =>
   rw [q] at HV2
   unfold noS at q
   cases q0 : (n == 0) <;> cases q1 : (n == 1)
   all_goals
    go_wp2
    go_ret
    exact ⟨by rw [HV2.out,q0,q1]; rfl,H.out.drop⟩
 have m1 : (k == 1) = false := beq_eq_false_iff_ne.2 k1
 by_cases k2 : k = 2
 ·have m2 : (k == 2) = true := beq_iff_eq.2 k2
  have HV2 := Lib.hid (HV.out.trans ((if_neg k1).trans (if_pos k2)))
  clear HV k1 k2
  cases q : noS s with
  | false =>
   rw [q] at HV2
   unfold noS at q
   go_wp2
   go_ret
   exact ⟨by rw [HV2.out]; rfl,H.out.drop⟩
  | true =>
   rw [q] at HV2
   unfold noS at q
   cases q0 : (n != -9223372036854775808)
   all_goals
    go_wp2
    go_ret
    exact ⟨by rw [HV2.out,q0]; rfl,H.out.drop⟩
 have m2 : (k == 2) = false := beq_eq_false_iff_ne.2 k2
 by_cases k3 : k = 3
 ·have m3' : (k == 3) = true := beq_iff_eq.2 k3
  have HV2 := Lib.hid (HV.out.trans ((if_neg k1).trans ((if_neg k2).trans (if_pos k3))))
  clear HV k1 k2 k3
  cases n1 : (n == 0) with
  | true =>
   go_wp2_with fail
   refine (HL.out _).mono ?_
   rintro e w2 ⟨rfl,rfl⟩
   go_wp2
   go_ret
   exact ⟨by rw [HV2.out,n1]; rfl,H.out.drop⟩
  | false =>
   go_wp2
   go_ret
   exact ⟨by rw [HV2.out,n1]; rfl,H.out.drop⟩
 have m3' : (k == 3) = false := beq_eq_false_iff_ne.2 k3
 have HV2 := Lib.hid (HV.out.trans ((if_neg k1).trans ((if_neg k2).trans (if_neg k3))))
 clear HV k1 k2 k3
 by_cases k7 : k = 7
 ·have m7 : (k == 7) = true := beq_iff_eq.2 k7
  rw [decide_eq_true k7] at HV2
  clear k7
  cases n1 : (n == 0) with
  | true =>
   go_wp2_with fail
   refine (HP.out _ _ H.out).mono ?_
   rintro e w2 ⟨rfl,h2⟩
   have H2 := Lib.hid h2
   clear h2 b0 b1 b2 b3 b4
   go_wp2
   go_ret
   exact ⟨by rw [HV2.out,n1]; rfl,H2.out.drop⟩
  | false =>
   go_wp2
   go_ret
   exact ⟨by rw [HV2.out,n1]; rfl,H.out.drop⟩
 ·have m7 : (k == 7) = false := beq_eq_false_iff_ne.2 k7
  rw [decide_eq_false k7] at HV2
  clear k7
  go_wp2
  go_ret
  exact ⟨by rw [HV2.out]; rfl,H.out.drop⟩
end Go.Proofs.YtbjddomocggjmaaGreat.Sc
end
