/- con, Con of the reference of layer 8: walked. -/
import Derived.Deep.Cut
import Derived.Test.YtbjddomocggjmaaGreatLK
namespace Go.Proofs.YtbjddomocggjmaaGreat.Sc
open Go.RowKit Go.ChangeShapes Go.WideShapes Go.Proofs.YtbjddomocggjmaaGreat.Sep
open Go.Proofs.YtbjddomocggjmaaGreatW.PrintWords
variable {B : Nat} {w0 w : World} {R : HP}
theorem casc2 (a b : Bool) : a = true ∨ a = false ∧ (b = true ∨ b = false) := by cases a <;> cases b <;> simp
theorem casc4 (a b c d : Bool) : a = true ∨ a = false ∧ (b = true ∨ b = false ∧ (c = true ∨ c = false ∧ (d = true ∨ d = false))) := by cases a <;> cases b <;> cases c <;> cases d <;> simp
theorem casc5 (a b c d e : Bool) : a = true ∨ a = false ∧ (b = true ∨ b = false ∧ (c = true ∨ c = false ∧ (d = true ∨ d = false ∧ (e = true ∨ e = false)))) := by cases a <;> cases b <;> cases c <;> cases d <;> cases e <;> simp
theorem casc6 (a b c d e f : Bool) : a = true ∨ a = false ∧ (b = true ∨ b = false ∧ (c = true ∨ c = false ∧ (d = true ∨ d = false ∧ (e = true ∨ e = false ∧ (f = true ∨ f = false))))) := by cases a <;> cases b <;> cases c <;> cases d <;> cases e <;> cases f <;> simp
def RConAt (w0 : World) (n : Nat) : Prop := ∀ (W : World) (Q : HP) (c : Con) (A5 : Option Addr) (c5 : Nat) (d : Int),0 ≤ d → d + n = 41 → S w0 W Q → kCon.C w0 A5 c.f5.length c.f5 →
 Calls Tryz.prog 98 #[.agg #[.int .i64 c.f0,.int .i64 c.f1,.int .i64 c.f2,.bool c.f3,.bool c.f4,.slice A5 c.f5.length c5],.int .i64 d] W fun e w' => e = .returned (.bool (conB n c)) ∧ S w0 w' Q
set_option maxHeartbeats 16000000 in
set_option maxRecDepth 100000 in
theorem rcon_zero : RConAt w0 0 := by
 intro W Q c A5 c5 d _ hd h hC
 obtain rfl : d = 41 := by omega
 have e : conB 0 c = false := rfl
 rw [e]
 have H := Lib.hid (h.alloc (.cells #[.int .i64 c.f0,.int .i64 c.f1,.int .i64 c.f2,.bool c.f3,.bool c.f4,.slice A5 c.f5.length c5] 33))
 clear h hC hd e
 go_enter Tryz.func98,Tryz.ntmps98
 go_wp2
 go_ret
 exact ⟨rfl,H.out.drop⟩
theorem con_leaf0 (lo hi : Int) (lw hh : Bool) (l : List Con) : (bareB ⟨0,lo,hi,lw,hh,l⟩ && decide (l.length = 0)) = (!decide (0 < l.length) && !(lo != 0) && !(hi != 0) && !lw && !hh) := by
 unfold bareB
 by_cases h1 : lo = 0 <;> by_cases h2 : hi = 0 <;> cases lw <;> cases hh <;> cases l <;> simp [h1,h2]
set_option maxHeartbeats 16000000 in
set_option maxRecDepth 100000 in
theorem rcon_all (lo hi : Int) (lw hh : Bool) (l : List Con) (A5 : Option Addr) (c5 : Nat) (d : Int) (hd : d ≤ 40) (h : S w0 w R) :
  Calls Tryz.prog 98 #[.agg #[.int .i64 0,.int .i64 lo,.int .i64 hi,.bool lw,.bool hh,.slice A5 l.length c5],.int .i64 d] w fun e w' => e = .returned (.bool (bareB ⟨0,lo,hi,lw,hh,l⟩ && decide (l.length = 0))) ∧ S w0 w' R := by
 have H := Lib.hid (h.alloc (.cells #[.int .i64 0,.int .i64 lo,.int .i64 hi,.bool lw,.bool hh,.slice A5 l.length c5] 33))
 have b0 := H.out.cell 0 rfl
 have b1 := H.out.cell 1 rfl
 have b2 := H.out.cell 2 rfl
 have b3 := H.out.cell 3 rfl
 have b4 := H.out.cell 4 rfl
 have b5 := H.out.cell 5 rfl
 have q0 : (40 < d) = False := eq_false (by omega)
 have HE := Lib.hid (con_leaf0 lo hi lw hh l)
 clear h
 go_enter Tryz.func98,Tryz.ntmps98
 go_upto_region 1 with fail
 generalize w.alloc (.cells #[.int .i64 0,.int .i64 lo,.int .i64 hi,.bool lw,.bool hh,.slice A5 l.length c5] 33) = wx at *
 generalize hm : l.length = m at b5 H ⊢
 rcases casc5 (decide (0 < m)) (lo != 0) (hi != 0) lw hh with p0 | ⟨p0,p1 | ⟨p1,p2 | ⟨p2,p3 | ⟨p3,p4 | p4⟩⟩⟩⟩
 case inl =>
  have p0' := eq_true (of_decide_eq_true p0)
  go_wp2
  go_ret
  exact ⟨by rw [HE.out,hm,p0]; rfl,H.out.drop⟩
 all_goals
  have p0' := eq_false (of_decide_eq_false p0)
 case inr.inr.inr.inr.inr =>
  have p5 : (lo != -9223372036854775808) = true := by
   have : lo = 0 := by simpa using p1
   rw [this]; rfl
  have p6 : (hi != -9223372036854775808) = true := by
   have : hi = 0 := by simpa using p2
   rw [this]; rfl
  go_wp2
  go_ret
  exact ⟨by rw [HE.out,hm,p0,p1,p2,p3,p4]; rfl,H.out.drop⟩
 all_goals
  go_wp2
  go_ret
  exact ⟨by rw [HE.out,hm]; first | (rw [p0,p1]; rfl) | (rw [p0,p1,p2]; rfl) | (rw [p0,p1,p2,p3]; rfl) | (rw [p0,p1,p2,p3,p4]; rfl),H.out.drop⟩
theorem con_leaf1 (lo hi : Int) (lw hh : Bool) (l : List Con) : spanB ⟨1,lo,hi,lw,hh,l⟩ = (!decide (0 < l.length) && (lo != -9223372036854775808) && (hi != -9223372036854775808) && !(lw && (lo != 0)) && !(hh && (hi != 0))) := by
 unfold spanB least
 rw [Bool.eq_iff_iff]
 cases lw <;> cases hh <;> simp <;> omega
set_option maxHeartbeats 16000000 in
set_option maxRecDepth 100000 in
theorem rcon_span (lo hi : Int) (lw hh : Bool) (l : List Con) (A5 : Option Addr) (c5 : Nat) (d : Int) (hd : d ≤ 40) (h : S w0 w R) :
  Calls Tryz.prog 98 #[.agg #[.int .i64 1,.int .i64 lo,.int .i64 hi,.bool lw,.bool hh,.slice A5 l.length c5],.int .i64 d] w fun e w' => e = .returned (.bool (spanB ⟨1,lo,hi,lw,hh,l⟩)) ∧ S w0 w' R := by
 have H := Lib.hid (h.alloc (.cells #[.int .i64 1,.int .i64 lo,.int .i64 hi,.bool lw,.bool hh,.slice A5 l.length c5] 33))
 have b0 := H.out.cell 0 rfl
 have b1 := H.out.cell 1 rfl
 have b2 := H.out.cell 2 rfl
 have b3 := H.out.cell 3 rfl
 have b4 := H.out.cell 4 rfl
 have b5 := H.out.cell 5 rfl
 have q0 : (40 < d) = False := eq_false (by omega)
 have HE := Lib.hid (con_leaf1 lo hi lw hh l)
 clear h
 have hc : ∀ b x : Bool,b = false ∨ b = true ∧ (x = false ∨ x = true) := by decide
 go_enter Tryz.func98,Tryz.ntmps98
 go_upto_region 1 with fail
 generalize w.alloc (.cells #[.int .i64 1,.int .i64 lo,.int .i64 hi,.bool lw,.bool hh,.slice A5 l.length c5] 33) = wx at *
 generalize hm : l.length = m at b5 H ⊢
 rcases casc4 (decide (0 < m)) (!(lo != -9223372036854775808)) (!(hi != -9223372036854775808)) false with p0 | ⟨p0,p1 | ⟨p1,p2 | ⟨p2,p3 | p3⟩⟩⟩
 case inr.inr.inr.inl => cases p3
 case inl =>
  have p0' := eq_true (of_decide_eq_true p0)
  go_wp2
  go_ret
  exact ⟨by rw [HE.out,hm,p0]; rfl,H.out.drop⟩
 all_goals
  have p0' := eq_false (of_decide_eq_false p0)
 case inr.inr.inr.inr =>
  clear p3
  rw [Bool.not_eq_false'] at p1 p2
  rcases hc lw (lo != 0) with p3 | ⟨p3,p4 | p4⟩
  all_goals
   rcases hc hh (hi != 0) with p5 | ⟨p5,p6 | p6⟩
   all_goals
    go_wp2
    go_ret
    exact ⟨by rw [HE.out,hm,p0,p1,p2,p3,p5]; first | rfl | (rw [p4]; rfl) | (rw [p6]; rfl) | (rw [p4,p6]; rfl),H.out.drop⟩
 all_goals
  try rw [Bool.not_eq_true'] at p1
  try rw [Bool.not_eq_false'] at p1
  try rw [Bool.not_eq_true'] at p2
  go_wp2
  go_ret
  exact ⟨by rw [HE.out,hm]; first | (rw [p0,p1]; rfl) | (rw [p0,p1,p2]; rfl),H.out.drop⟩
theorem con_node (b : Con → Bool) (k lo hi : Int) (lw hh : Bool) (l : List Con) (k0 : k ≠ 0) (k1 : k ≠ 1) : conS b ⟨k,lo,hi,lw,hh,l⟩ = (!decide (k < 0) && !decide (4 < k) && !(lo != 0) && !(hi != 0) && !lw && !hh && !decide ((l.length : Int) < 2) && !((k == 4) && ((l.length : Int) != 2)) && l.all fun x => !(x.f0 == 0) && b x) := by
 rw [con_S,if_neg k0,if_neg k1]
 unfold kidsB bareB
 have ea : (!l.any fun x => decide (x.f0 = 0) || !b x) = l.all fun x => !(x.f0 == 0) && b x := by
  rw [List.not_any_eq_all_not]
  congr 1
  funext x
  rw [Bool.not_or,Bool.not_not]
  congr 2
 show (if k = 4 then decide (l.length = 2) && (_ && !l.any fun x => decide (x.f0 = 0) || !b x) else if k = 2 ∨ k = 3 then decide (2 ≤ l.length) && (_ && !l.any fun x => decide (x.f0 = 0) || !b x) else false) = _
 rw [ea]
 generalize (l.all fun x => !(x.f0 == 0) && b x) = z
 by_cases k4 : k = 4
 ·subst k4
  rw [if_pos rfl]
  rcases l with _ | ⟨a,_ | ⟨b',_ | ⟨c',l⟩⟩⟩ <;> by_cases h1 : lo = 0 <;> by_cases h2 : hi = 0 <;> cases lw <;> cases hh <;> cases z <;> simp [h1,h2] <;> omega
 ·rw [if_neg k4]
  by_cases k23 : k = 2 ∨ k = 3
  ·rw [if_pos k23,beq_eq_false_iff_ne.2 k4,decide_eq_false (show ¬ k < 0 by omega),decide_eq_false (show ¬ 4 < k by omega)]
   rcases l with _ | ⟨a,_ | ⟨b',l⟩⟩ <;> by_cases h1 : lo = 0 <;> by_cases h2 : hi = 0 <;> cases lw <;> cases hh <;> cases z <;> simp [h1,h2] <;> omega
  ·rw [if_neg k23]
   have : decide (k < 0) = true ∨ decide (4 < k) = true := by simp; omega
   rcases this with h | h <;> rw [h] <;> simp
theorem all_take {α : Type} {l : List α} {p : α → Bool} {x : Int} (hx : ∀ y ∈ l.take x.toNat,p y = true) (h : (l.length : Int) ≤ x) : l.all p = true :=
 List.all_eq_true.2 fun y hy => hx y (by rw [List.take_of_length_le (by omega)]; exact hy)
theorem all_next {α : Type} {l : List α} {p : α → Bool} {x : Int} (h0 : 0 ≤ x) (hx : ∀ y ∈ l.take x.toNat,p y = true) {r : α} (hr : l[x.toNat]? = some r) (hp : p r = true) : ∀ y ∈ l.take (x + 1).toNat,p y = true := by
 rw [show (x + 1).toNat = x.toNat + 1 by omega,List.take_add_one,hr]
 intro y hy
 rcases List.mem_append.1 hy with hy | hy
 ·exact hx y hy
 ·rw [show y = r by simpa using hy]; exact hp
set_option maxHeartbeats 16000000 in
set_option maxRecDepth 100000 in
theorem rcon_more (n : Nat) (ih : RConAt w0 n) (k lo hi : Int) (lw hh : Bool) (l : List Con) (A5 : Option Addr) (c5 : Nat) (d : Int) (hd0 : 0 ≤ d) (hd : d + n = 40) (h : S w0 w R) (hC : kCon.C w0 A5 l.length l) (k0 : k ≠ 0) (k1 : k ≠ 1) :
  Calls Tryz.prog 98 #[.agg #[.int .i64 k,.int .i64 lo,.int .i64 hi,.bool lw,.bool hh,.slice A5 l.length c5],.int .i64 d] w fun e w' => e = .returned (.bool (conS (conB n) ⟨k,lo,hi,lw,hh,l⟩)) ∧ S w0 w' R := by
 have H := Lib.hid (h.alloc (.cells #[.int .i64 k,.int .i64 lo,.int .i64 hi,.bool lw,.bool hh,.slice A5 l.length c5] 33))
 have b0 := H.out.cell 0 rfl
 have b1 := H.out.cell 1 rfl
 have b2 := H.out.cell 2 rfl
 have b3 := H.out.cell 3 rfl
 have b4 := H.out.cell 4 rfl
 have b5 := H.out.cell 5 rfl
 have hl : l.length ≤ 9223372036854775807 := hC.2.1
 have q0 : (40 < d) = False := eq_false (by omega)
 have w1 : IntKind.i64.wrap (d + 1) = d + 1 := IntWalk.i64_in _ (by omega)
 have q1 : (k == 0) = false := beq_eq_false_iff_ne.2 k0
 have q2 : (k == 1) = false := beq_eq_false_iff_ne.2 k1
 have HE := Lib.hid (con_node (conB n) k lo hi lw hh l k0 k1)
 have HI := Lib.hid (And.intro hC (And.intro ih (And.intro hd0 hd)))
 clear h hC ih hd0 hd k0 k1
 go_enter Tryz.func98,Tryz.ntmps98
 go_upto_region 1 with fail
 generalize w.alloc (.cells #[.int .i64 k,.int .i64 lo,.int .i64 hi,.bool lw,.bool hh,.slice A5 l.length c5] 33) = wx at *
 generalize w.heap.size = g at *
 generalize hm : l.length = m at b5 H ⊢
 rcases casc6 (decide (k < 0)) (decide (4 < k)) (lo != 0) (hi != 0) lw hh with p0 | ⟨p0,p1 | ⟨p1,p2 | ⟨p2,p3 | ⟨p3,p4 | ⟨p4,p5 | p5⟩⟩⟩⟩⟩
 case inr.inr.inr.inr.inr.inr =>
  rcases casc2 (decide ((m : Int) < 2)) ((k == 4) && ((m : Int) != 2)) with p6 | ⟨p6,p7 | p7⟩
  ·go_wp2
   go_ret
   exact ⟨by rw [HE.out,hm,p0,p1,p2,p3,p4,p5,p6]; rfl,H.out.drop⟩
  ·obtain ⟨p8,p9⟩ := (Bool.and_eq_true _ _ ▸ p7 : _ ∧ _)
   go_wp2
   go_ret
   exact ⟨by rw [HE.out,hm,p0,p1,p2,p3,p4,p5,p6,p8,p9]; rfl,H.out.drop⟩
  ·have HE2 : Hid (conS (conB n) ⟨k,lo,hi,lw,hh,l⟩ = l.all fun x => !(x.f0 == 0) && conB n x) := Lib.hid (by rw [HE.out,hm,p0,p1,p2,p3,p4,p5,p6,p7]; rfl)
   clear HE
   have hp : (k == 4) = false ∨ (k == 4) = true ∧ ((m : Int) != 2) = false := by
    revert p7
    generalize (k == 4) = a
    generalize ((m : Int) != 2) = c
    cases a <;> cases c <;> simp
   clear p7
   rcases hp with p7 | ⟨p7,p8⟩
   all_goals
    go_wp2
    clear q0 q1 q2 p0 p1 p2 p3 p4 p5 p6 p7 b0 b1 b2 b3 b4 b5
    try clear p8
    go_loopw [5] (fun v wr => ∃ x : Int,0 ≤ x ∧ x ≤ m ∧ v = .int .i64 x ∧ Hid (S w0 wr (Blk g (.cells #[.int .i64 k,.int .i64 lo,.int .i64 hi,.bool lw,.bool hh,.slice A5 m c5] 33) • R)) ∧ Hid (∀ y ∈ l.take x.toNat,(!(y.f0 == 0) && conB n y) = true)) (fun v _ => m - (intOf v).toNat)
    case atStart => exact ⟨0,Int.le_refl _,by omega,rfl,H,Lib.hid (by simp)⟩
    case round =>
     clear H
     obtain ⟨x,hx0,hx1,rfl,HR,HT⟩ := hrel
     have b5 := HR.out.cell 5 rfl
     by_cases hlt : x < m
     ·obtain ⟨ad,cs,eA,hcl0,hK,hcell0⟩ := Kd.C_get HI.out.1 zCon x hx0 (by omega)
      cases eA
      have hcell : ∀ (j : Nat) (u : Value),cs[j]? = some u → w0.cell? (ad.add (x.toNat * 6 + j)) = some u := hcell0
      have HG := Lib.hid (getD_mem l zCon x hx0 (by omega))
      generalize l.getD x.toNat zCon = r at *
      obtain ⟨A5',c5',rfl, -,g5⟩ := PScopeResolves.k33_open hK
      have g5h := Lib.hid g5
      have HF : Hid (∀ (j : Nat),0 < j → ∀ u,([.int .i64 r.f0,.int .i64 r.f1,.int .i64 r.f2,.bool r.f3,.bool r.f4,.slice A5' r.f5.length c5'] : List Value)[j]? = some u → wr.cell? ⟨(ad.add (x.toNat * 6)).block,(ad.add (x.toNat * 6)).off + j,none⟩ = some u) := Lib.hid fun j hj u hu => by
       have := pw_cell_below HR.out.below (hcell j u hu)
       rwa [add_field ad _ _ hj] at this
      have d0 : wr.cell? (ad.add (x.toNat * 6)) = some (.int .i64 r.f0) := pw_cell_below HR.out.below (hcell 0 _ rfl)
      have d1 := HF.out 1 (by decide) _ rfl
      have d2 := HF.out 2 (by decide) _ rfl
      have d3 := HF.out 3 (by decide) _ rfl
      have d4 := HF.out 4 (by decide) _ rfl
      have d5 := HF.out 5 (by decide) _ rfl
      have p126 := eq_true hx0
      have q126 : (x < (m : Int)) = True := eq_true hlt
      clear hcell hcell0 hcl0 hK g5
      cases hq : (r.f0 == 0) with
      | true =>
       have HZ : Hid ((l.all fun x => !(x.f0 == 0) && conB n x) = false) := Lib.hid (List.all_eq_false.2 ⟨r,List.mem_of_getElem? HG.out,by rw [hq]; simp⟩)
       go_wp2
       go_ret
       exact ⟨by rw [HE2.out,HZ.out]; rfl,HR.out.drop⟩
      | false =>
       go_wp2_with fail
       refine (HI.out.2.1 _ _ r A5' c5' (d + 1) (by have := HI.out.2.2; omega) (by have := HI.out.2.2; omega) HR.out g5h.out).mono ?_
       rintro e w2 ⟨rfl,h2⟩
       have H2 := Lib.hid h2
       clear h2 HR
       cases hb : conB n r with
       | false =>
        have HZ : Hid ((l.all fun x => !(x.f0 == 0) && conB n x) = false) := Lib.hid (List.all_eq_false.2 ⟨r,List.mem_of_getElem? HG.out,by rw [hb]; simp⟩)
        go_wp2
        go_ret
        exact ⟨by rw [HE2.out,HZ.out]; rfl,H2.out.drop⟩
       | true =>
        have HT2 := Lib.hid (all_next hx0 HT.out HG.out (show (!(r.f0 == 0) && conB n r) = true by rw [hq,hb]; rfl))
        go_wp2
        exact ⟨⟨x + 1,by omega,by omega,by go_num,H2,HT2⟩,by simp only [intOf]; omega⟩
     ·have hlt' : (x < (m : Int)) = False := eq_false hlt
      have HZ := Lib.hid (all_take HT.out (by omega))
      go_wp2
      go_ret
      exact ⟨by rw [HE2.out,HZ.out]; rfl,HR.out.drop⟩
 all_goals
  go_wp2
  go_ret
  exact ⟨by rw [HE.out]; first | (rw [p0]; rfl) | (rw [p0,p1]; rfl) | (rw [p0,p1,p2]; rfl) | (rw [p0,p1,p2,p3]; rfl) | (rw [p0,p1,p2,p3,p4]; rfl) | (rw [p0,p1,p2,p3,p4,p5]; rfl),H.out.drop⟩
theorem rcon_at (n : Nat) : RConAt w0 n := by
 induction n with
 | zero => exact rcon_zero
 | succ n ih =>
  intro w R c A5 c5 d hd0 hd h hC
  obtain ⟨k,lo,hi,lw,hh,l⟩ := c
  have e : conB (n + 1) ⟨k,lo,hi,lw,hh,l⟩ = conS (conB n) ⟨k,lo,hi,lw,hh,l⟩ := rfl
  rw [e]
  clear e
  by_cases k0 : k = 0
  ·subst k0
   rw [con_S,if_pos rfl]
   exact rcon_all lo hi lw hh l A5 c5 d (by omega) h
  by_cases k1 : k = 1
  ·subst k1
   rw [con_S,if_neg k0,if_pos rfl]
   exact rcon_span lo hi lw hh l A5 c5 d (by omega) h
  exact rcon_more n ih k lo hi lw hh l A5 c5 d hd0 (by omega) h hC k0 k1
theorem rcon40_calls (c : Con) (A5 : Option Addr) (c5 : Nat) (h : S w0 w R) (hC : kCon.C w0 A5 c.f5.length c.f5) :
  Calls Tryz.prog 82 #[.agg #[.int .i64 c.f0,.int .i64 c.f1,.int .i64 c.f2,.bool c.f3,.bool c.f4,.slice A5 c.f5.length c5]] w fun e w' => e = .returned (.bool (conB 40 c)) ∧ S w0 w' R := by
 have H := Lib.hid (h.alloc (.cells #[.int .i64 c.f0,.int .i64 c.f1,.int .i64 c.f2,.bool c.f3,.bool c.f4,.slice A5 c.f5.length c5] 33))
 have HC := Lib.hid (rcon_at (w0 := w0) 40 _ _ c A5 c5 1 (by omega) (by omega) H.out hC)
 have b0 := H.out.cell 0 rfl
 have b1 := H.out.cell 1 rfl
 have b2 := H.out.cell 2 rfl
 have b3 := H.out.cell 3 rfl
 have b4 := H.out.cell 4 rfl
 have b5 := H.out.cell 5 rfl
 clear h hC
 go_enter Tryz.func82,Tryz.ntmps82
 go_wp2_with fail
 refine HC.out.mono ?_
 rintro e w2 ⟨rfl,h2⟩
 have H2 := Lib.hid h2
 clear h2 HC
 go_wp2
 go_ret
 exact ⟨rfl,H2.out.drop⟩
end Go.Proofs.YtbjddomocggjmaaGreat.Sc
