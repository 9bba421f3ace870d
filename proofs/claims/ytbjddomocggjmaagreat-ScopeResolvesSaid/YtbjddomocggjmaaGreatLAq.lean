/- parts of the reference of layer 8, of sequences: walked. -/
import Derived.Test.YtbjddomocggjmaaGreatLZ
import Derived.Test.YtbjddomocggjmaaGreatLAd
section
namespace Go.Proofs.YtbjddomocggjmaaGreat.Sc
open Go.RowKit Go.ChangeShapes Go.WideShapes Go.Proofs.YtbjddomocggjmaaGreat.Sep
open Go.Proofs.YtbjddomocggjmaaGreatW.PrintWords
variable {B : Nat} {w0 w : World} {R : HP}
def RShapedAt (w0 : World) (n : Nat) : Prop := ∀ (W : World) (Q : HP) (t : Ty) (cs : List Value) (d : Int),0 ≤ d → d + n = 41 → S w0 W Q → kTy.K w0 t cs → oTy t →
 Calls Tryz.prog 69 #[.agg cs.toArray,.int .i64 d] W fun e w' => e = .returned (.bool (shapedB n t)) ∧ S w0 w' Q
theorem pt_more {p : Pt Ty} {cs : List Value} (h : kPt.K w0 p cs) : ∃ ts A c,PtC w0 p cs ts A c ∧ cs[0]? = some (.string p.n) ∧ kVal.C w0 A p.d.length p.d ∧ ∀ u ∈ cs,u.oneCell' = true := by
 have hl : cs.length = 18 := kPt.K_len h
 have ho := kPt.K_one h
 obtain ⟨ts,A,c,e,hT, -,g⟩ := kPt_open h
 have ht : ts.length = 15 := kTy.K_len hT
 refine ⟨ts,A,c,⟨hl, ?_, ?_,fun j v hv => ?_,ht,hT⟩,by rw [e]; rfl,g,ho⟩
 ·rw [e,List.singleton_append,List.getElem?_cons_succ,List.getElem?_append_right (by omega),ht]
  rfl
 ·rw [e,List.singleton_append,List.getElem?_cons_succ,List.getElem?_append_right (by omega),ht]
  rfl
 ·have hj := (List.getElem?_eq_some_iff.1 hv).1
  rw [e,List.singleton_append,Nat.add_comm,List.getElem?_cons_succ,List.getElem?_append_left hj]
  exact hv
theorem all_bad {α : Type} {l : List α} {p : α → Bool} {x : Nat} {r : α} (hr : l[x]? = some r) (hp : p r = false) : l.all p = false := List.all_eq_false.2 ⟨r,List.mem_of_getElem? hr,by rw [hp]; simp⟩
section
variable {b : Ty → Bool} {ch o : Bool} {nm : ByteArray} {t : Ty} {d : List Val}
theorem part_l (h : lowerB nm.data.toList = false) : partB b ch ⟨nm,t,o,d⟩ = false := by unfold partB; rw [h]; rfl
theorem part_s (h : b t = false) : partB b ch ⟨nm,t,o,d⟩ = false := by unfold partB; rw [h,Bool.and_false]
theorem part_2 (h : 2 ≤ d.length) : partB b ch ⟨nm,t,o,d⟩ = false := by unfold partB; rw [decide_eq_true (show 1 < d.length by omega)]; simp
theorem part_0 (h0 : lowerB nm.data.toList = true) (h1 : b t = true) (h : d.length = 0) : partB b ch ⟨nm,t,o,d⟩ = !(ch && o) := by
 obtain rfl := List.eq_nil_of_length_eq_zero h
 unfold partB
 rw [h0,h1]
 cases o <;> cases ch <;> rfl
theorem part_1 {v : Val} (h0 : lowerB nm.data.toList = true) (h1 : b t = true) (h : d = [v]) : partB b ch ⟨nm,t,o,d⟩ = (!o && !ch && valB v) := by
 subst h
 unfold partB
 rw [h0,h1]
 cases o <;> cases ch <;> simp
end
theorem len1 {α : Type} {l : List α} (h : l.length = 1) : ∃ a,l = [a] := by
 match l,h with
 | [a],_ => exact ⟨a,rfl⟩
set_option maxHeartbeats 16000000 in
set_option maxRecDepth 100000 in
theorem rparts1_calls (n : Nat) (ih : RShapedAt w0 n) (A : Option Addr) (c : Nat) (l : List (Pt Ty)) (d : Int) (hd0 : 0 ≤ d) (hd : d + n = 41) (h : S w0 w R) (hC : kPt.C w0 A l.length l) (ho : ∀ p ∈ l,oPt oTy p) :
  Calls Tryz.prog 87 #[.slice A l.length c,.bool true,.int .i64 d] w fun e w' => e = .returned (.bool (partsB (shapedB n) true l)) ∧ S w0 w' R := by
 have hl : l.length ≤ 9223372036854775807 := hC.2.1
 have HI := Lib.hid (And.intro (fun W Q t cs => ih W Q t cs d hd0 hd) (And.intro hC ho))
 have H := Lib.hid h
 have HE : Hid (partsB (shapedB n) true l = (decide (l.length ≤ 256) && l.all (partB (shapedB n) true))) := Lib.hid rfl
 clear h hC ho ih
 by_cases h256 : l.length ≤ 256
 case neg =>
  have p1 : decide ((256 : Int) < (l.length : Int)) = true := decide_eq_true (by omega)
  have p1' : ((256 : Int) < (l.length : Int)) = True := eq_true (by omega)
  rw [decide_eq_false h256] at HE
  clear h256
  go_enter Tryz.func87,Tryz.ntmps87
  go_wp2
  go_ret
  exact ⟨by rw [HE.out]; rfl,H.out⟩
 have p1 : decide ((256 : Int) < (l.length : Int)) = false := decide_eq_false (by omega)
 have p1' : ((256 : Int) < (l.length : Int)) = False := eq_false (by omega)
 rw [decide_eq_true h256,Bool.true_and] at HE
 clear h256
 go_enter Tryz.func87,Tryz.ntmps87
 go_wp2
 clear p1 p1'
 go_loopw [7] (fun v wr => ∃ x : Int,0 ≤ x ∧ x ≤ l.length ∧ v = .int .i64 x ∧ Hid (S w0 wr R) ∧ Hid (∀ p ∈ l.take x.toNat,partB (shapedB n) true p = true)) (fun v _ => l.length - (intOf v).toNat)
 case atStart => exact ⟨0,Int.le_refl _,by omega,rfl,H,Lib.hid (by simp)⟩
 case round =>
  clear H
  obtain ⟨x,hx0,hx1,rfl,HR,HT⟩ := hrel
  by_cases hlt : x < l.length
  ·obtain ⟨ad,cs,eA,hcl0,hK,hcell0⟩ := Kd.C_get HI.out.2.1 zPt x hx0 hlt
   cases eA
   have hcell : ∀ (j : Nat) (u : Value),cs[j]? = some u → w0.cell? (ad.add (x.toNat * 18 + j)) = some u := hcell0
   have HG := Lib.hid (getD_mem l zPt x hx0 hlt)
   generalize l.getD x.toNat zPt = r at *
   have hor := HI.out.2.2 r (List.mem_of_getElem? HG.out)
   obtain ⟨nm,t,o,dv⟩ := r
   obtain ⟨ts,A17,c17,hPC,hc0,gd,hone⟩ := pt_more (show kPt.K w0 ⟨nm,t,o,dv⟩ cs from hK)
   have HC := Lib.hid (And.intro hPC (And.intro hc0 (And.intro gd (And.intro hone hor))))
   have HCl := Lib.hid hcell
   have p126 := eq_true hx0
   have q126 : (x < (l.length : Int)) = True := eq_true hlt
   clear hcell hcell0 hcl0 hK hPC hc0 gd hone hor
   go_wp2_with (refine held_load 83 _ rfl ?_)
   refine ⟨?_⟩
   refine wpList_load_cells rfl 83 _ rfl _ rfl cs (elem_cells HR.out.below HCl.out) _ Tryz.underlying83 rfl (by rw [HC.out.1.len]; kernel_rfl) ?_
   go_wp2_with (refine held_store _ _ _ rfl ?_)
   refine ⟨?_⟩
   refine wpList_store_off rfl rfl cs rfl rfl rfl (by rw [HC.out.1.len]; kernel_rfl) HC.out.2.2.2.1 (HR.out.alloc _) (by rw [HC.out.1.len]; simp) (new := cs.toArray) (fill_all (by rw [HC.out.1.len]; rfl)) ?_
   intro w6 h6
   generalize wr.heap.size = q at h6 ⊢
   have H6 := Lib.hid h6
   have d0 := h6.cell 0 (v := .string nm) (by rw [List.getElem?_toArray]; exact HC.out.2.1)
   have HL := Lib.hid (fun W => rlower_calls nm W HC.out.2.2.2.2.1)
   clear h6 HR HCl
   go_wp2_with fail
   refine (HL.out _).mono ?_
   rintro e w1 ⟨rfl,rfl⟩
   clear d0
   cases hq : lowerB nm.data.toList with
   | false =>
    have HZ : Hid (l.all (partB (shapedB n) true) = false) := Lib.hid (all_bad HG.out (part_l hq))
    go_wp2
    go_ret
    exact ⟨by rw [HE.out,HZ.out]; rfl,H6.out.drop⟩
   | true =>
    have HQ := Lib.hid hq
    clear hq
    go_wp2_with (refine held_load 38 _ rfl ?_)
    refine ⟨?_⟩
    refine wpList_load_cells_w (by rfl) 38 _ rfl ⟨q,1,none⟩ rfl ts (fun j v hv => by rw [WideShapes.add_plain]; exact H6.out.cell (1 + j) (by rw [List.getElem?_toArray]; exact HC.out.1.typ j v hv)) _ Tryz.underlying38 rfl (by rw [HC.out.1.tlen]; kernel_rfl) ?_
    go_wp2_with fail
    refine (HI.out.1 _ _ t ts H6.out HC.out.1.kt HC.out.2.2.2.2.2.1).mono ?_
    rintro e w7 ⟨rfl,h7⟩
    have H7 := Lib.hid h7
    have d16 := h7.cell 16 (v := .bool o) (by rw [List.getElem?_toArray]; exact HC.out.1.opt)
    have d17 := h7.cell 17 (v := .slice A17 dv.length c17) (by rw [List.getElem?_toArray]; exact HC.out.1.dft)
    clear h7 H6
    cases hs : shapedB n t with
    | false =>
     have HZ : Hid (l.all (partB (shapedB n) true) = false) := Lib.hid (all_bad HG.out (part_s (o := o) (ch := true) (nm := nm) (d := dv) hs))
     go_wp2
     go_ret
     exact ⟨by rw [HE.out,HZ.out]; rfl,H7.out.drop⟩
    | true =>
     have HS := Lib.hid hs
     clear hs
     by_cases z2 : 2 ≤ dv.length
     ·have HZ : Hid (l.all (partB (shapedB n) true) = false) := Lib.hid (all_bad HG.out (part_2 (b := shapedB n) (o := o) (ch := true) (nm := nm) (t := t) z2))
      generalize dv.length = mv at d17 z2
      have y0 := eq_true (show 0 < mv by omega)
      have y1 := eq_true (show (1 : Int) < mv by omega)
      clear z2
      cases e1 : o
      all_goals
       go_wp2
       go_ret
       exact ⟨by rw [HE.out,HZ.out]; rfl,H7.out.drop⟩
     by_cases z0 : dv.length = 0
     ·have HPq := Lib.hid (part_0 (b := shapedB n) (ch := true) (o := o) HQ.out HS.out z0)
      generalize dv.length = mv at d17 z0
      have y0 := eq_false (show ¬ 0 < mv by omega)
      have y1 := eq_false (show ¬ (1 : Int) < mv by omega)
      have y2 : ((mv : Int) == 1) = false := beq_eq_false_iff_ne.2 (by omega)
      clear z0 z2
      cases e1 : o
      all_goals
       first
       | (have HZ : Hid (l.all (partB (shapedB n) true) = false) := Lib.hid (all_bad HG.out (HPq.out.trans (by rw [e1]; rfl)))
          go_wp2
          go_ret
          exact ⟨by rw [HE.out,HZ.out]; rfl,H7.out.drop⟩)
       | (have HT2 := Lib.hid (all_next (p := partB (shapedB n) true) hx0 HT.out HG.out (HPq.out.trans (by rw [e1]; rfl)))
          go_wp2
          exact ⟨⟨x + 1,by omega,by omega,by go_num,Lib.hid H7.out.drop,HT2⟩,by simp only [intOf]; omega⟩)
     have z1 : dv.length = 1 := by omega
     obtain ⟨v,hv⟩ := len1 z1
     have HPq := Lib.hid (part_1 (b := shapedB n) (ch := true) (o := o) HQ.out HS.out hv)
     obtain ⟨ad7,vs,eA,hcl,hKv,hcell7⟩ := Kd.C_get HC.out.2.2.1 zVal 0 (by omega) (by omega)
     cases eA
     have hvd : dv.getD (0 : Int).toNat zVal = v := by rw [hv]; rfl
     rw [hvd] at hKv
     obtain ⟨A3,c3,A4,c4,rfl, -⟩ := PScopeResolves.k109_open (show kVal.K w0 v vs from hKv)
     have HV := Lib.hid (fun (W : World) (Q : Sep.HP) (hh : S w0 W Q) => rdef_calls v A3 c3 A4 c4 hh (HC.out.2.2.2.2.2.2.2 v (by show v ∈ dv; rw [hv]; simp) 1))
     have HCv : Hid (∀ (j : Nat) (u : Value),([.int .i64 v.f0,.int .i64 v.f1,.string v.f2,.slice A3 v.f3.length c3,.slice A4 v.f4.length c4] : List Value)[j]? = some u → w7.cell? (ad7.add j) = some u) := Lib.hid fun j u hu => by
      have := pw_cell_below H7.out.below (hcell7 j u hu)
      rwa [show (0 : Int).toNat * kVal.sz + j = j by simp] at this
     have u0 : w7.cell? ad7 = some (.int .i64 v.f0) := by have h := HCv.out 0 _ rfl; rwa [add_zero1] at h
     have u1 : w7.cell? ⟨ad7.block,ad7.off + 1,none⟩ = some (.int .i64 v.f1) := by rw [← add_field1 ad7 1 (by omega)]; exact HCv.out 1 _ rfl
     have u2 : w7.cell? ⟨ad7.block,ad7.off + 2,none⟩ = some (.string v.f2) := by rw [← add_field1 ad7 2 (by omega)]; exact HCv.out 2 _ rfl
     have u3 : w7.cell? ⟨ad7.block,ad7.off + 3,none⟩ = some (.slice A3 v.f3.length c3) := by rw [← add_field1 ad7 3 (by omega)]; exact HCv.out 3 _ rfl
     have u4 : w7.cell? ⟨ad7.block,ad7.off + 4,none⟩ = some (.slice A4 v.f4.length c4) := by rw [← add_field1 ad7 4 (by omega)]; exact HCv.out 4 _ rfl
     generalize dv.length = mv at d17 z1
     have y0 := eq_true (show 0 < mv by omega)
     have y1 := eq_false (show ¬ (1 : Int) < mv by omega)
     have y2 : ((mv : Int) == 1) = true := beq_iff_eq.2 (by omega)
     have y3 := eq_true (show (0 : Int) < mv by omega)
     clear hvd hKv hcell7 hcl HCv z0 z1 z2 hv
     cases e1 : o
     all_goals
      first
      | (have HZ : Hid (l.all (partB (shapedB n) true) = false) := Lib.hid (all_bad HG.out (HPq.out.trans (by rw [e1]; rfl)))
         go_wp2
         go_ret
         exact ⟨by rw [HE.out,HZ.out]; rfl,H7.out.drop⟩)
      | skip
     all_goals
      have HP2 : Hid (partB (shapedB n) true ⟨nm,t,o,dv⟩ = valB v) := Lib.hid (HPq.out.trans (by rw [e1]; rfl))
      go_wp2_with fail
      refine (HV.out _ _ H7.out).mono ?_
      rintro e w8 ⟨rfl,h8⟩
      have H8 := Lib.hid h8
      clear h8 H7 d16 d17 u0 u1 u2 u3 u4
      cases hv : valB v with
      | false =>
       have HZ : Hid (l.all (partB (shapedB n) true) = false) := Lib.hid (all_bad HG.out (HP2.out.trans hv))
       go_wp2
       go_ret
       exact ⟨by rw [HE.out,HZ.out]; rfl,H8.out.drop⟩
      | true =>
       have HT2 := Lib.hid (all_next (p := partB (shapedB n) true) hx0 HT.out HG.out (HP2.out.trans hv))
       go_wp2
       exact ⟨⟨x + 1,by omega,by omega,by go_num,Lib.hid H8.out.drop,HT2⟩,by simp only [intOf]; omega⟩
  ·have hlt' : (x < (l.length : Int)) = False := eq_false hlt
   have HZ := Lib.hid (all_take HT.out (by omega))
   go_wp2
   go_ret
   exact ⟨by rw [HE.out,HZ.out]; rfl,HR.out⟩
end Go.Proofs.YtbjddomocggjmaaGreat.Sc
end
section
namespace Go.Proofs.YtbjddomocggjmaaGreat.Sc
open Go.RowKit Go.ChangeShapes Go.WideShapes Go.Proofs.YtbjddomocggjmaaGreat.Sep
open Go.Proofs.YtbjddomocggjmaaGreatW.PrintWords
variable {B : Nat} {w0 w : World} {R : HP}
set_option maxHeartbeats 16000000 in
set_option maxRecDepth 100000 in
theorem rparts0_calls (n : Nat) (ih : RShapedAt w0 n) (A : Option Addr) (c : Nat) (l : List (Pt Ty)) (d : Int) (hd0 : 0 ≤ d) (hd : d + n = 41) (h : S w0 w R) (hC : kPt.C w0 A l.length l) (ho : ∀ p ∈ l,oPt oTy p) :
  Calls Tryz.prog 87 #[.slice A l.length c,.bool false,.int .i64 d] w fun e w' => e = .returned (.bool (partsB (shapedB n) false l)) ∧ S w0 w' R := by
 have hl : l.length ≤ 9223372036854775807 := hC.2.1
 have HI := Lib.hid (And.intro (fun W Q t cs => ih W Q t cs d hd0 hd) (And.intro hC ho))
 have H := Lib.hid h
 have HE : Hid (partsB (shapedB n) false l = (decide (l.length ≤ 256) && l.all (partB (shapedB n) false))) := Lib.hid rfl
 clear h hC ho ih
 by_cases h256 : l.length ≤ 256
 case neg =>
  have p1 : decide ((256 : Int) < (l.length : Int)) = true := decide_eq_true (by omega)
  have p1' : ((256 : Int) < (l.length : Int)) = True := eq_true (by omega)
  rw [decide_eq_false h256] at HE
  clear h256
  go_enter Tryz.func87,Tryz.ntmps87
  go_wp2
  go_ret
  exact ⟨by rw [HE.out]; rfl,H.out⟩
 have p1 : decide ((256 : Int) < (l.length : Int)) = false := decide_eq_false (by omega)
 have p1' : ((256 : Int) < (l.length : Int)) = False := eq_false (by omega)
 rw [decide_eq_true h256,Bool.true_and] at HE
 clear h256
 go_enter Tryz.func87,Tryz.ntmps87
 go_wp2
 clear p1 p1'
 go_loopw [7] (fun v wr => ∃ x : Int,0 ≤ x ∧ x ≤ l.length ∧ v = .int .i64 x ∧ Hid (S w0 wr R) ∧ Hid (∀ p ∈ l.take x.toNat,partB (shapedB n) false p = true)) (fun v _ => l.length - (intOf v).toNat)
 case atStart => exact ⟨0,Int.le_refl _,by omega,rfl,H,Lib.hid (by simp)⟩
 case round =>
  clear H
  obtain ⟨x,hx0,hx1,rfl,HR,HT⟩ := hrel
  by_cases hlt : x < l.length
  ·obtain ⟨ad,cs,eA,hcl0,hK,hcell0⟩ := Kd.C_get HI.out.2.1 zPt x hx0 hlt
   cases eA
   have hcell : ∀ (j : Nat) (u : Value),cs[j]? = some u → w0.cell? (ad.add (x.toNat * 18 + j)) = some u := hcell0
   have HG := Lib.hid (getD_mem l zPt x hx0 hlt)
   generalize l.getD x.toNat zPt = r at *
   have hor := HI.out.2.2 r (List.mem_of_getElem? HG.out)
   obtain ⟨nm,t,o,dv⟩ := r
   obtain ⟨ts,A17,c17,hPC,hc0,gd,hone⟩ := pt_more (show kPt.K w0 ⟨nm,t,o,dv⟩ cs from hK)
   have HC := Lib.hid (And.intro hPC (And.intro hc0 (And.intro gd (And.intro hone hor))))
   have HCl := Lib.hid hcell
   have p126 := eq_true hx0
   have q126 : (x < (l.length : Int)) = True := eq_true hlt
   clear hcell hcell0 hcl0 hK hPC hc0 gd hone hor
   go_wp2_with (refine held_load 83 _ rfl ?_)
   refine ⟨?_⟩
   refine wpList_load_cells rfl 83 _ rfl _ rfl cs (elem_cells HR.out.below HCl.out) _ Tryz.underlying83 rfl (by rw [HC.out.1.len]; kernel_rfl) ?_
   go_wp2_with (refine held_store _ _ _ rfl ?_)
   refine ⟨?_⟩
   refine wpList_store_off rfl rfl cs rfl rfl rfl (by rw [HC.out.1.len]; kernel_rfl) HC.out.2.2.2.1 (HR.out.alloc _) (by rw [HC.out.1.len]; simp) (new := cs.toArray) (fill_all (by rw [HC.out.1.len]; rfl)) ?_
   intro w6 h6
   generalize wr.heap.size = q at h6 ⊢
   have H6 := Lib.hid h6
   have d0 := h6.cell 0 (v := .string nm) (by rw [List.getElem?_toArray]; exact HC.out.2.1)
   have HL := Lib.hid (fun W => rlower_calls nm W HC.out.2.2.2.2.1)
   clear h6 HR HCl
   go_wp2_with fail
   refine (HL.out _).mono ?_
   rintro e w1 ⟨rfl,rfl⟩
   clear d0
   cases hq : lowerB nm.data.toList with
   | false =>
    have HZ : Hid (l.all (partB (shapedB n) false) = false) := Lib.hid (all_bad HG.out (part_l hq))
    go_wp2
    go_ret
    exact ⟨by rw [HE.out,HZ.out]; rfl,H6.out.drop⟩
   | true =>
    have HQ := Lib.hid hq
    clear hq
    go_wp2_with (refine held_load 38 _ rfl ?_)
    refine ⟨?_⟩
    refine wpList_load_cells_w (by rfl) 38 _ rfl ⟨q,1,none⟩ rfl ts (fun j v hv => by rw [WideShapes.add_plain]; exact H6.out.cell (1 + j) (by rw [List.getElem?_toArray]; exact HC.out.1.typ j v hv)) _ Tryz.underlying38 rfl (by rw [HC.out.1.tlen]; kernel_rfl) ?_
    go_wp2_with fail
    refine (HI.out.1 _ _ t ts H6.out HC.out.1.kt HC.out.2.2.2.2.2.1).mono ?_
    rintro e w7 ⟨rfl,h7⟩
    have H7 := Lib.hid h7
    have d16 := h7.cell 16 (v := .bool o) (by rw [List.getElem?_toArray]; exact HC.out.1.opt)
    have d17 := h7.cell 17 (v := .slice A17 dv.length c17) (by rw [List.getElem?_toArray]; exact HC.out.1.dft)
    clear h7 H6
    cases hs : shapedB n t with
    | false =>
     have HZ : Hid (l.all (partB (shapedB n) false) = false) := Lib.hid (all_bad HG.out (part_s (o := o) (ch := false) (nm := nm) (d := dv) hs))
     go_wp2
     go_ret
     exact ⟨by rw [HE.out,HZ.out]; rfl,H7.out.drop⟩
    | true =>
     have HS := Lib.hid hs
     clear hs
     by_cases z2 : 2 ≤ dv.length
     ·have HZ : Hid (l.all (partB (shapedB n) false) = false) := Lib.hid (all_bad HG.out (part_2 (b := shapedB n) (o := o) (ch := false) (nm := nm) (t := t) z2))
      generalize dv.length = mv at d17 z2
      have y0 := eq_true (show 0 < mv by omega)
      have y1 := eq_true (show (1 : Int) < mv by omega)
      clear z2
      cases e1 : o
      all_goals
       go_wp2
       go_ret
       exact ⟨by rw [HE.out,HZ.out]; rfl,H7.out.drop⟩
     by_cases z0 : dv.length = 0
     ·have HPq := Lib.hid (part_0 (b := shapedB n) (ch := false) (o := o) HQ.out HS.out z0)
      generalize dv.length = mv at d17 z0
      have y0 := eq_false (show ¬ 0 < mv by omega)
      have y1 := eq_false (show ¬ (1 : Int) < mv by omega)
      have y2 : ((mv : Int) == 1) = false := beq_eq_false_iff_ne.2 (by omega)
      clear z0 z2
      cases e1 : o
      all_goals
       first
       | (have HZ : Hid (l.all (partB (shapedB n) false) = false) := Lib.hid (all_bad HG.out (HPq.out.trans (by rw [e1]; rfl)))
          go_wp2
          go_ret
          exact ⟨by rw [HE.out,HZ.out]; rfl,H7.out.drop⟩)
       | (have HT2 := Lib.hid (all_next (p := partB (shapedB n) false) hx0 HT.out HG.out (HPq.out.trans (by rw [e1]; rfl)))
          go_wp2
          exact ⟨⟨x + 1,by omega,by omega,by go_num,Lib.hid H7.out.drop,HT2⟩,by simp only [intOf]; omega⟩)
     have z1 : dv.length = 1 := by omega
     obtain ⟨v,hv⟩ := len1 z1
     have HPq := Lib.hid (part_1 (b := shapedB n) (ch := false) (o := o) HQ.out HS.out hv)
     obtain ⟨ad7,vs,eA,hcl,hKv,hcell7⟩ := Kd.C_get HC.out.2.2.1 zVal 0 (by omega) (by omega)
     cases eA
     have hvd : dv.getD (0 : Int).toNat zVal = v := by rw [hv]; rfl
     rw [hvd] at hKv
     obtain ⟨A3,c3,A4,c4,rfl, -⟩ := PScopeResolves.k109_open (show kVal.K w0 v vs from hKv)
     have HV := Lib.hid (fun (W : World) (Q : Sep.HP) (hh : S w0 W Q) => rdef_calls v A3 c3 A4 c4 hh (HC.out.2.2.2.2.2.2.2 v (by show v ∈ dv; rw [hv]; simp) 1))
     have HCv : Hid (∀ (j : Nat) (u : Value),([.int .i64 v.f0,.int .i64 v.f1,.string v.f2,.slice A3 v.f3.length c3,.slice A4 v.f4.length c4] : List Value)[j]? = some u → w7.cell? (ad7.add j) = some u) := Lib.hid fun j u hu => by
      have := pw_cell_below H7.out.below (hcell7 j u hu)
      rwa [show (0 : Int).toNat * kVal.sz + j = j by simp] at this
     have u0 : w7.cell? ad7 = some (.int .i64 v.f0) := by have h := HCv.out 0 _ rfl; rwa [add_zero1] at h
     have u1 : w7.cell? ⟨ad7.block,ad7.off + 1,none⟩ = some (.int .i64 v.f1) := by rw [← add_field1 ad7 1 (by omega)]; exact HCv.out 1 _ rfl
     have u2 : w7.cell? ⟨ad7.block,ad7.off + 2,none⟩ = some (.string v.f2) := by rw [← add_field1 ad7 2 (by omega)]; exact HCv.out 2 _ rfl
     have u3 : w7.cell? ⟨ad7.block,ad7.off + 3,none⟩ = some (.slice A3 v.f3.length c3) := by rw [← add_field1 ad7 3 (by omega)]; exact HCv.out 3 _ rfl
     have u4 : w7.cell? ⟨ad7.block,ad7.off + 4,none⟩ = some (.slice A4 v.f4.length c4) := by rw [← add_field1 ad7 4 (by omega)]; exact HCv.out 4 _ rfl
     generalize dv.length = mv at d17 z1
     have y0 := eq_true (show 0 < mv by omega)
     have y1 := eq_false (show ¬ (1 : Int) < mv by omega)
     have y2 : ((mv : Int) == 1) = true := beq_iff_eq.2 (by omega)
     have y3 := eq_true (show (0 : Int) < mv by omega)
     clear hvd hKv hcell7 hcl HCv z0 z1 z2 hv
     cases e1 : o
     all_goals
      first
      | (have HZ : Hid (l.all (partB (shapedB n) false) = false) := Lib.hid (all_bad HG.out (HPq.out.trans (by rw [e1]; rfl)))
         go_wp2
         go_ret
         exact ⟨by rw [HE.out,HZ.out]; rfl,H7.out.drop⟩)
      | skip
     all_goals
      have HP2 : Hid (partB (shapedB n) false ⟨nm,t,o,dv⟩ = valB v) := Lib.hid (HPq.out.trans (by rw [e1]; rfl))
      go_wp2_with fail
      refine (HV.out _ _ H7.out).mono ?_
      rintro e w8 ⟨rfl,h8⟩
      have H8 := Lib.hid h8
      clear h8 H7 d16 d17 u0 u1 u2 u3 u4
      cases hv : valB v with
      | false =>
       have HZ : Hid (l.all (partB (shapedB n) false) = false) := Lib.hid (all_bad HG.out (HP2.out.trans hv))
       go_wp2
       go_ret
       exact ⟨by rw [HE.out,HZ.out]; rfl,H8.out.drop⟩
      | true =>
       have HT2 := Lib.hid (all_next (p := partB (shapedB n) false) hx0 HT.out HG.out (HP2.out.trans hv))
       go_wp2
       exact ⟨⟨x + 1,by omega,by omega,by go_num,Lib.hid H8.out.drop,HT2⟩,by simp only [intOf]; omega⟩
  ·have hlt' : (x < (l.length : Int)) = False := eq_false hlt
   have HZ := Lib.hid (all_take HT.out (by omega))
   go_wp2
   go_ret
   exact ⟨by rw [HE.out,HZ.out]; rfl,HR.out⟩
end Go.Proofs.YtbjddomocggjmaaGreat.Sc
end
