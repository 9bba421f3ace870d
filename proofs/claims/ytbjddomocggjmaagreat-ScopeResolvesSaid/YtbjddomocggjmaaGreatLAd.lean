/- finite of scope: its closures, its kinds. -/
import Derived.Test.YtbjddomocggjmaaGreatLAc
section
namespace Go.Proofs.YtbjddomocggjmaaGreat.Sc
open Go.RowKit Go.ChangeShapes Go.WideShapes Go.Proofs.YtbjddomocggjmaaGreat.Sep
open Go.Proofs.YtbjddomocggjmaaGreatW.PrintWords
variable {B : Nat} {w0 w : World} {R : HP}
theorem bad_mod_tells (l : List Md) (ho : ∀ m ∈ l,oMd m) : Tells kMd w0 R 12 #[] l (fun m => !mdB m) := by
 intro W m h hm cs hK
 obtain ⟨A2,c2,A3,c3,rfl,l2,g2,l3,g3⟩ := kMd_open hK
 have HM := Lib.hid (fun (W : World) (Q : HP) (h : S w0 W Q) => module_calls m A2 c2 A3 c3 h g2 g3 (ho m hm))
 show Calls Tryz.prog 12 #[.agg #[.string m.n,.bool m.au,.slice A2 m.im.length c2,.slice A3 m.df.length c3]] W fun e w' => e = .returned (.bool (!mdB m)) ∧ S w0 w' R
 have H := Lib.hid (h.alloc (.cells #[.string m.n,.bool m.au,.slice A2 m.im.length c2,.slice A3 m.df.length c3] 44))
 have d0 := H.out.cell 0 rfl
 have d1 := H.out.cell 1 rfl
 have d2 := H.out.cell 2 rfl
 have d3 := H.out.cell 3 rfl
 clear h hK hm ho g2 g3
 go_enter Tryz.func12,Tryz.ntmps12
 go_wp2_with fail
 refine (HM.out _ _ H.out).mono ?_
 rintro e w2 ⟨rfl,h2⟩
 have H2 := Lib.hid h2
 clear h2
 go_wp2
 go_ret
 exact ⟨rfl,H2.out.drop⟩
theorem empty_calls (c : Con) (A : Option Addr) (p : Nat) (h : S w0 w R) :
  Calls Tryz.prog 63 #[.agg #[.int .i64 c.f0,.int .i64 c.f1,.int .i64 c.f2,.bool c.f3,.bool c.f4,.slice A c.f5.length p]] w fun e w' => e = .returned (.bool (emptyB c)) ∧ S w0 w' R := by
 have H := Lib.hid (h.alloc (.cells #[.int .i64 c.f0,.int .i64 c.f1,.int .i64 c.f2,.bool c.f3,.bool c.f4,.slice A c.f5.length p] 33))
 have d0 := H.out.cell 0 rfl
 have d1 := H.out.cell 1 rfl
 have d2 := H.out.cell 2 rfl
 have d3 := H.out.cell 3 rfl
 have d4 := H.out.cell 4 rfl
 clear h
 obtain ⟨c0,c1,c2,c3,c4,c5⟩ := c
 simp only at d0 d1 d2 d3 d4 H
 unfold emptyB
 dsimp only
 by_cases k0 : c0 = 0
 ·subst k0
  rw [if_pos rfl]
  go_enter Tryz.func63,Tryz.ntmps63
  go_wp2
  go_ret
  exact ⟨rfl,H.out.drop⟩
 have p0 : (c0 == 0) = false := beq_eq_false_iff_ne.2 k0
 rw [if_neg k0]
 by_cases k1 : c0 = 1
 ·subst k1
  rw [if_pos rfl]
  clear k0
  cases c3 with
  | true =>
   go_enter Tryz.func63,Tryz.ntmps63
   go_wp2
   go_ret
   exact ⟨rfl,H.out.drop⟩
  | false =>
   by_cases k2 : c1 ≤ 0
   ·rw [decide_eq_true k2]
    have p2 : decide (c1 ≤ 0) = true := decide_eq_true k2
    cases c4 with
    | true =>
     go_enter Tryz.func63,Tryz.ntmps63
     go_wp2
     go_ret
     exact ⟨rfl,H.out.drop⟩
    | false =>
     go_enter Tryz.func63,Tryz.ntmps63
     go_wp2
     go_ret
     exact ⟨rfl,H.out.drop⟩
   ·rw [decide_eq_false k2]
    have p2 : decide (c1 ≤ 0) = false := decide_eq_false k2
    go_enter Tryz.func63,Tryz.ntmps63
    go_wp2
    go_ret
    exact ⟨rfl,H.out.drop⟩
 ·have p1 : (c0 == 1) = false := beq_eq_false_iff_ne.2 k1
  rw [if_neg k1]
  go_enter Tryz.func63,Tryz.ntmps63
  go_wp2
  go_ret
  exact ⟨rfl,H.out.drop⟩
end Go.Proofs.YtbjddomocggjmaaGreat.Sc
end
section
namespace Go.Proofs.YtbjddomocggjmaaGreat.Sc
open Go.RowKit Go.ChangeShapes Go.WideShapes Go.Proofs.YtbjddomocggjmaaGreat.Sep
open Go.Proofs.YtbjddomocggjmaaGreatW.PrintWords
variable {B : Nat} {w0 w : World} {R : HP}
def Dp : Nat → Ty → Prop
 | 0,_ => False
 | n + 1,t => t.n.size ≤ maxLen ∧ (∀ p ∈ t.ps,Dp n p.t) ∧ (∀ p ∈ t.ad,Dp n p.t) ∧ ∀ x ∈ t.el,Dp n x
def FinAt (w0 : World) (kb : Nat) (K : List (List UInt8)) (n : Nat) : Prop := ∀ (W : World) (Q : HP) (t : Ty) (cs : List Value),S w0 W (MapV kb (setM K) • Q) → kTy.K w0 t cs → Dp n t →
 Calls Tryz.prog 40 #[.map (some kb),.agg cs.toArray] W fun e w' => e = .returned (.bool (finT K.contains n t)) ∧ S w0 w' (MapV kb (setM K) • Q)
theorem wpList_load_cells_w {P : Program} {ops : Array Oper} {rest : List Oper} {o : Oper} {a : Act} {w : World} {Q : Exit → Act → World → Prop} (hw : Region.wanted o (yielded ops a.tmps) = true) (ty : TypeId) (x : Operand) (ho : o.op = .load ty x)
  (ad : Addr) (hx : a.eval x = .pointer (some ad)) (cs : List Value) (hc : ∀ j v,cs[j]? = some v → w.cell? (ad.add j) = some v) (d : TypeDesc)
  (hu : P.underlying ty = some d) (hd : (match d with | .struct _ | .array _ _ => true | _ => false) = true) (hi : (P.info? ty).map (·.size) = some cs.length)
  (h : wpList P ops Q rest (a.put o.dst (.agg cs.toArray)) w) : wpList P ops Q (o :: rest) a w := by
 unfold wpList
 rw [if_pos hw]
 refine .inl ?_
 unfold Oper.wp execOp
 simp only [ho,hx,Instr.loadAt,Instr.sureAddr,Sem.run_bind,Sem.run_pure,Result.andThen_ok,run_loadVar_cells w ad ty cs d hc hu hd hi]
 exact h
structure PtC (w0 : World) (p : Pt Ty) (cs ts : List Value) (A : Option Addr) (c : Nat) : Prop where
 len : cs.length = 18
 opt : cs[16]? = some (.bool p.o)
 dft : cs[17]? = some (.slice A p.d.length c)
 typ : ∀ (j : Nat) (v : Value),ts[j]? = some v → cs[1 + j]? = some v
 tlen : ts.length = 15
 kt : kTy.K w0 p.t ts
theorem pt_cells {p : Pt Ty} {cs : List Value} (h : kPt.K w0 p cs) : ∃ ts A c,PtC w0 p cs ts A c := by
 have hl : cs.length = 18 := kPt.K_len h
 obtain ⟨ts,A,c,e,hT, -⟩ := kPt_open h
 have ht : ts.length = 15 := kTy.K_len hT
 refine ⟨ts,A,c,hl, ?_, ?_,fun j v hv => ?_,ht,hT⟩
 ·rw [e,List.singleton_append,List.getElem?_cons_succ,List.getElem?_append_right (by omega),ht]
  rfl
 ·rw [e,List.singleton_append,List.getElem?_cons_succ,List.getElem?_append_right (by omega),ht]
  rfl
 ·have hj := (List.getElem?_eq_some_iff.1 hv).1
  rw [e,List.singleton_append,Nat.add_comm,List.getElem?_cons_succ,List.getElem?_append_left hj]
  exact hv
set_option maxHeartbeats 16000000 in
set_option maxRecDepth 100000 in
theorem fin2_tells (kb : Nat) (K : List (List UInt8)) (n : Nat) (ih : FinAt w0 kb K n) (l : List (Pt Ty)) (ho : ∀ p ∈ l,Dp n p.t) (b : Nat) :
  Tells kPt w0 (Blk b (.cells #[.map (some kb)] 57) • (MapV kb (setM K) • R)) 66 #[.pointer (some ⟨b,0,none⟩)] l (fun p => finT K.contains n p.t) := by
 intro W p h hp cs hK
 obtain ⟨ts,A,c,hC⟩ := pt_cells hK
 have HC := Lib.hid (And.intro hC (ho p hp))
 have H := Lib.hid (h.alloc (.cells cs.toArray 83))
 have e0 := H.out.two.cell 0 rfl
 have hI := Lib.hid ih
 clear h hK hC ho
 show Calls Tryz.prog 66 #[.agg cs.toArray,.pointer (some ⟨b,0,none⟩)] W _
 go_enter Tryz.func66,Tryz.ntmps66
 go_wp2_with (refine held_load 38 _ rfl ?_)
 refine ⟨?_⟩
 refine wpList_load_cells rfl 38 _ rfl ⟨W.heap.size,1,none⟩ rfl ts (fun j v hv => by rw [WideShapes.add_plain]; exact H.out.cell (1 + j) (by rw [List.getElem?_toArray]; exact HC.out.1.typ j v hv)) _ Tryz.underlying38 rfl (by rw [HC.out.1.tlen]; kernel_rfl) ?_
 go_wp2_with fail
 refine (hI.out _ _ p.t ts H.out.three HC.out.1.kt HC.out.2).mono ?_
 rintro e w2 ⟨rfl,h2⟩
 have H2 := Lib.hid h2.two.drop.two
 clear h2
 go_wp2
 go_ret
 exact ⟨rfl,H2.out⟩
def needB (K : List (List UInt8)) (n : Nat) (p : Pt Ty) : Bool := !p.o && decide (p.d.length = 0) && !finT K.contains n p.t
set_option maxHeartbeats 16000000 in
set_option maxRecDepth 100000 in
theorem fin1_tells (kb : Nat) (K : List (List UInt8)) (n : Nat) (ih : FinAt w0 kb K n) (l : List (Pt Ty)) (ho : ∀ p ∈ l,Dp n p.t) (b : Nat) :
  Tells kPt w0 (Blk b (.cells #[.map (some kb)] 57) • (MapV kb (setM K) • R)) 65 #[.pointer (some ⟨b,0,none⟩)] l (fun p => needB K n p) := by
 intro W p h hp cs hK
 obtain ⟨ts,A,c,hC⟩ := pt_cells hK
 have HC := Lib.hid (And.intro hC (ho p hp))
 have H := Lib.hid (h.alloc (.cells cs.toArray 83))
 have e0 := H.out.two.cell 0 rfl
 have d2 := H.out.cell 16 (v := .bool p.o) (by rw [List.getElem?_toArray]; exact hC.opt)
 have d3 := H.out.cell 17 (v := .slice A p.d.length c) (by rw [List.getElem?_toArray]; exact hC.dft)
 have hI := Lib.hid ih
 clear h hK hC ho
 show Calls Tryz.prog 65 #[.agg cs.toArray,.pointer (some ⟨b,0,none⟩)] W fun e w' => e = .returned (.bool (!p.o && decide (p.d.length = 0) && !finT K.contains n p.t)) ∧ S w0 w' (Blk b (.cells #[.map (some kb)] 57) • (MapV kb (setM K) • R))
 generalize p.o = po at *
 cases po with
 | true =>
  go_enter Tryz.func65,Tryz.ntmps65
  go_wp2
  go_ret
  exact ⟨rfl,H.out.drop⟩
 | false =>
  by_cases k : p.d.length = 0
  ·have p1 : ((p.d.length : Int) == 0) = true := beq_iff_eq.2 (by omega)
   rw [decide_eq_true k]
   clear k
   go_enter Tryz.func65,Tryz.ntmps65
   go_wp2_with (refine held_load 38 _ rfl ?_)
   refine ⟨?_⟩
   refine wpList_load_cells_w (by rfl) 38 _ rfl ⟨W.heap.size,1,none⟩ rfl ts (fun j v hv => by rw [WideShapes.add_plain]; exact H.out.cell (1 + j) (by rw [List.getElem?_toArray]; exact HC.out.1.typ j v hv)) _ Tryz.underlying38 rfl (by rw [HC.out.1.tlen]; kernel_rfl) ?_
   go_wp2_with fail
   refine (hI.out _ _ p.t ts H.out.three HC.out.1.kt HC.out.2).mono ?_
   rintro e w2 ⟨rfl,h2⟩
   have H2 := Lib.hid h2.two.drop.two
   clear h2
   go_wp2
   go_ret
   exact ⟨rfl,H2.out⟩
  ·have p1 : ((p.d.length : Int) == 0) = false := beq_eq_false_iff_ne.2 (by omega)
   rw [decide_eq_false k]
   clear k
   go_enter Tryz.func65,Tryz.ntmps65
   go_wp2
   go_ret
   exact ⟨rfl,H.out.drop⟩
end Go.Proofs.YtbjddomocggjmaaGreat.Sc
end
