/- shape.of, part, parts, shaped, Type: walked. -/
import Derived.Test.YtbjddomocggjmaaGreatLM
namespace Go.Proofs.YtbjddomocggjmaaGreat.Sc
open Go.RowKit Go.ChangeShapes Go.WideShapes Go.Proofs.YtbjddomocggjmaaGreat.Sep
open Go.Proofs.YtbjddomocggjmaaGreatW.PrintWords
variable {B : Nat} {w0 w : World} {R : HP}
def fN (t : Ty) : Bool := !t.n.toList.isEmpty
def fC (t : Ty) : Bool := t.c.f0 != 0
def fF (t : Ty) : Bool := !t.fr.toList.isEmpty
def fNs (t : Ty) : Bool := decide (0 < t.ns.length)
def fMo (t : Ty) : Bool := decide (0 < t.mo.length)
def fPs (t : Ty) : Bool := decide (0 < t.ps.length)
def fAd (t : Ty) : Bool := decide (0 < t.ad.length)
def fEl (t : Ty) : Bool := decide (0 < t.el.length)
def flags (t : Ty) : Value := .agg #[.bool (fN t),.bool (fC t),.bool t.e,.bool (fF t),.bool (fNs t),.bool (fMo t),.bool (fPs t),.bool (fAd t),.bool (fEl t)]
set_option maxHeartbeats 4000000 in
set_option maxRecDepth 100000 in
theorem of_calls (t : Ty) (A7 : Option Addr) (c7 : Nat) (A10 : Option Addr) (c10 : Nat) (A11 : Option Addr) (c11 : Nat) (A12 : Option Addr) (c12 : Nat) (A13 : Option Addr) (c13 : Nat) (A14 : Option Addr) (c14 : Nat) (h : St B w0 w R) :
  Calls Tryz.prog 75 #[.agg #[.int .i64 t.k,.string t.n,.int .i64 t.c.f0,.int .i64 t.c.f1,.int .i64 t.c.f2,.bool t.c.f3,.bool t.c.f4,.slice A7 t.c.f5.length c7,.bool t.e,.string t.fr,.slice A10 t.ns.length c10,.slice A11 t.mo.length c11,.slice A12 t.ps.length c12,.slice A13 t.ad.length c13,.slice A14 t.el.length c14]] w fun e w' => e = .returned (flags t) ∧ St B w0 w' R := by
 have H := Lib.hid (h.alloc (.cells #[.int .i64 t.k,.string t.n,.int .i64 t.c.f0,.int .i64 t.c.f1,.int .i64 t.c.f2,.bool t.c.f3,.bool t.c.f4,.slice A7 t.c.f5.length c7,.bool t.e,.string t.fr,.slice A10 t.ns.length c10,.slice A11 t.mo.length c11,.slice A12 t.ps.length c12,.slice A13 t.ad.length c13,.slice A14 t.el.length c14] 38))
 have d1 := H.out.cell 1 rfl
 have d2 := H.out.cell 2 rfl
 have d8 := H.out.cell 8 rfl
 have d9 := H.out.cell 9 rfl
 have d10 := H.out.cell 10 rfl
 have d11 := H.out.cell 11 rfl
 have d12 := H.out.cell 12 rfl
 have d13 := H.out.cell 13 rfl
 have d14 := H.out.cell 14 rfl
 have H2 := Lib.hid (alloc_at (n := w.heap.size + 1) H.out (.cells #[.bool (fN t),.bool (fC t),.bool t.e,.bool (fF t),.bool (fNs t),.bool (fMo t),.bool (fPs t),.bool (fAd t),.bool (fEl t)] 115) (by simp))
 unfold fN fC fF fNs fMo fPs fAd fEl at H2
 unfold flags fN fC fF fNs fMo fPs fAd fEl
 clear h
 go_enter Tryz.func75,Tryz.ntmps75
 go_wp2
 refine bodyPost_ret (v := _) (results_cell_row rfl _ _ (w.heap.size + 1) _ _ (0,0) _ rfl H2.out.block Tryz.underlying115 rfl (by kernel_rfl)) rfl ⟨rfl,H2.out.drop.drop⟩
theorem add_field1 (ad : Addr) (j : Nat) (hj : 0 < j) : ad.add j = ⟨ad.block,ad.off + j,none⟩ := by
 have h := add_field ad 0 j hj
 rw [Nat.zero_add] at h
 rw [h]
 rfl
def partB (b : Ty → Bool) (ch : Bool) (p : Pt Ty) : Bool :=
 lowerB p.n.data.toList && !(p.o && decide (0 < p.d.length)) && !decide (1 < p.d.length) && !(ch && (p.o || decide (0 < p.d.length))) && p.d.all valB && b p.t
def partsB (b : Ty → Bool) (ch : Bool) (l : List (Pt Ty)) : Bool := decide (l.length ≤ 256) && l.all (partB b ch)
def shapedS (b : Ty → Bool) (t : Ty) : Bool :=
 conB 40 t.c &&
 (if t.k = 1 ∨ t.k = 4 then !fN t && !fC t && !t.e && !fF t && !fNs t && !fMo t && !fPs t && !fAd t && !fEl t
 else if t.k = 2 ∨ t.k = 5 ∨ t.k = 6 then !fN t && !fF t && !fNs t && !fMo t && !fPs t && !fAd t && !fEl t && (!t.e || fC t)
 else if t.k = 7 then !fN t && !fNs t && !fMo t && !fPs t && !fAd t && !fEl t && (!t.e || fC t) && printB t.fr && risesB t.fr.data.toList
 else if t.k = 3 then !fN t && !fC t && !fF t && fNs t && (!fMo t || t.e) && !fPs t && !fAd t && !fEl t && wordsB t.ns && wordsB t.mo
 else if t.k = 8 then !fN t && !fC t && !fF t && !fNs t && !fMo t && (!fAd t || t.e) && !fEl t && partsB b false t.ps && partsB b false t.ad
 else if t.k = 10 then !fN t && !fC t && !fF t && !fNs t && !fMo t && fPs t && (!fAd t || t.e) && !fEl t && partsB b true t.ps && partsB b true t.ad
 else if t.k = 9 then !fN t && !fF t && !fNs t && !fMo t && !fPs t && !fAd t && fEl t && (!t.e || fC t) && decide (t.el.length = 1) && t.el.all b
 else decide (t.k = 11) && fN t && !fC t && !t.e && !fF t && !fNs t && !fMo t && !fPs t && !fAd t && !fEl t && nameB t.n)
def shapedB : Nat → Ty → Bool
 | 0,_ => false
 | n + 1,t => shapedS (shapedB n) t
def ShapedAt (w0 : World) (n : Nat) : Prop := ∀ (W : World) (Q : HP) (t : Ty) (cs : List Value),S w0 W Q → kTy.K w0 t cs → oTy t →
 Calls Tryz.prog 58 #[.agg cs.toArray,.int .i64 n] W fun e w' => e = .returned (.bool (shapedB n t)) ∧ S w0 w' Q
set_option maxHeartbeats 8000000 in
set_option maxRecDepth 100000 in
theorem part_calls (n : Nat) (ih : ShapedAt w0 n) (ch : Bool) (p : Pt Ty) (cs : List Value) (h : S w0 w R) (hK : kPt.K w0 p cs) (ho : oPt oTy p) :
  Calls Tryz.prog 95 #[.agg cs.toArray,.bool ch,.int .i64 n] w fun e w' => e = .returned (.bool (partB (shapedB n) ch p)) ∧ S w0 w' R := by
 obtain ⟨nm,t,o,d⟩ := p
 obtain ⟨ts,A17,c17,rfl,hT,ld,gd⟩ := kPt_open hK
 obtain ⟨on,ot,od,ov⟩ := ho
 have HT := Lib.hid (And.intro hT ot)
 have HV := Lib.hid (And.intro gd ov)
 have HL := Lib.hid (fun (W : World) (Q : HP) (h : S w0 W Q) => lower_calls nm h on)
 have HI := Lib.hid ih
 obtain ⟨A7,c7,A10,c10,A11,c11,A12,c12,A13,c13,A14,c14,rfl, -⟩ := kTy_open hT
 show Calls Tryz.prog 95 #[.agg #[.string nm,.int .i64 t.k,.string t.n,.int .i64 t.c.f0,.int .i64 t.c.f1,.int .i64 t.c.f2,.bool t.c.f3,.bool t.c.f4,.slice A7 t.c.f5.length c7,.bool t.e,.string t.fr,.slice A10 t.ns.length c10,.slice A11 t.mo.length c11,.slice A12 t.ps.length c12,.slice A13 t.ad.length c13,.slice A14 t.el.length c14,.bool o,.slice A17 d.length c17],.bool ch,.int .i64 n] w fun e w' => e = .returned (.bool (lowerB nm.data.toList && !(o && decide (0 < d.length)) && !decide (1 < d.length) && !(ch && (o || decide (0 < d.length))) && d.all valB && shapedB n t)) ∧ S w0 w' R
 have H := Lib.hid (h.alloc (.cells #[.string nm,.int .i64 t.k,.string t.n,.int .i64 t.c.f0,.int .i64 t.c.f1,.int .i64 t.c.f2,.bool t.c.f3,.bool t.c.f4,.slice A7 t.c.f5.length c7,.bool t.e,.string t.fr,.slice A10 t.ns.length c10,.slice A11 t.mo.length c11,.slice A12 t.ps.length c12,.slice A13 t.ad.length c13,.slice A14 t.el.length c14,.bool o,.slice A17 d.length c17] 83))
 have hz : Hid (d.length ≤ 140737488355328) := Lib.hid od
 clear h hK on ot od ov ih ld gd
 have d0 := H.out.cell 0 rfl
 have d1 := H.out.cell 1 rfl
 have d2 := H.out.cell 2 rfl
 have d3 := H.out.cell 3 rfl
 have d4 := H.out.cell 4 rfl
 have d5 := H.out.cell 5 rfl
 have d6 := H.out.cell 6 rfl
 have d7 := H.out.cell 7 rfl
 have d8 := H.out.cell 8 rfl
 have d9 := H.out.cell 9 rfl
 have d10 := H.out.cell 10 rfl
 have d11 := H.out.cell 11 rfl
 have d12 := H.out.cell 12 rfl
 have d13 := H.out.cell 13 rfl
 have d14 := H.out.cell 14 rfl
 have d15 := H.out.cell 15 rfl
 have d16 := H.out.cell 16 rfl
 have d17 := H.out.cell 17 rfl
 cases hl : lowerB nm.data.toList with
 | false =>
  have HL2 := Lib.hid (HL.out _ _ H.out)
  rw [hl] at HL2
  clear hl
  go_enter Tryz.func95,Tryz.ntmps95
  go_wp2_with fail
  refine HL2.out.mono ?_
  rintro e w2 ⟨rfl,h2⟩
  have H2 := Lib.hid h2
  clear h2
  go_wp2
  go_ret
  exact ⟨rfl,H2.out.drop⟩
 | true =>
  have HL2 := Lib.hid (HL.out _ _ H.out)
  rw [hl] at HL2
  clear hl
  rw [Bool.true_and]
  match d with
  | [] =>
   cases o <;> cases ch
   ·go_enter Tryz.func95,Tryz.ntmps95
    go_wp2_with fail
    refine HL2.out.mono ?_
    rintro e w2 ⟨rfl,h2⟩
    have H2 := Lib.hid h2
    replace d0 := H2.out.cell 0 rfl
    replace d1 := H2.out.cell 1 rfl
    replace d2 := H2.out.cell 2 rfl
    replace d3 := H2.out.cell 3 rfl
    replace d4 := H2.out.cell 4 rfl
    replace d5 := H2.out.cell 5 rfl
    replace d6 := H2.out.cell 6 rfl
    replace d7 := H2.out.cell 7 rfl
    replace d8 := H2.out.cell 8 rfl
    replace d9 := H2.out.cell 9 rfl
    replace d10 := H2.out.cell 10 rfl
    replace d11 := H2.out.cell 11 rfl
    replace d12 := H2.out.cell 12 rfl
    replace d13 := H2.out.cell 13 rfl
    replace d14 := H2.out.cell 14 rfl
    replace d15 := H2.out.cell 15 rfl
    replace d16 := H2.out.cell 16 rfl
    replace d17 := H2.out.cell 17 rfl
    clear h2
    go_wp2_with fail
    refine (HI.out _ _ t _ H2.out HT.out.1 HT.out.2).mono ?_
    rintro e w3 ⟨rfl,h3⟩
    have H3 := Lib.hid h3
    clear h3
    go_wp2
    go_ret
    exact ⟨by simp,H3.out.drop⟩
   ·go_enter Tryz.func95,Tryz.ntmps95
    go_wp2_with fail
    refine HL2.out.mono ?_
    rintro e w2 ⟨rfl,h2⟩
    have H2 := Lib.hid h2
    replace d0 := H2.out.cell 0 rfl
    replace d1 := H2.out.cell 1 rfl
    replace d2 := H2.out.cell 2 rfl
    replace d3 := H2.out.cell 3 rfl
    replace d4 := H2.out.cell 4 rfl
    replace d5 := H2.out.cell 5 rfl
    replace d6 := H2.out.cell 6 rfl
    replace d7 := H2.out.cell 7 rfl
    replace d8 := H2.out.cell 8 rfl
    replace d9 := H2.out.cell 9 rfl
    replace d10 := H2.out.cell 10 rfl
    replace d11 := H2.out.cell 11 rfl
    replace d12 := H2.out.cell 12 rfl
    replace d13 := H2.out.cell 13 rfl
    replace d14 := H2.out.cell 14 rfl
    replace d15 := H2.out.cell 15 rfl
    replace d16 := H2.out.cell 16 rfl
    replace d17 := H2.out.cell 17 rfl
    clear h2
    go_wp2_with fail
    refine (HI.out _ _ t _ H2.out HT.out.1 HT.out.2).mono ?_
    rintro e w3 ⟨rfl,h3⟩
    have H3 := Lib.hid h3
    clear h3
    go_wp2
    go_ret
    exact ⟨by simp,H3.out.drop⟩
   ·go_enter Tryz.func95,Tryz.ntmps95
    go_wp2_with fail
    refine HL2.out.mono ?_
    rintro e w2 ⟨rfl,h2⟩
    have H2 := Lib.hid h2
    replace d0 := H2.out.cell 0 rfl
    replace d1 := H2.out.cell 1 rfl
    replace d2 := H2.out.cell 2 rfl
    replace d3 := H2.out.cell 3 rfl
    replace d4 := H2.out.cell 4 rfl
    replace d5 := H2.out.cell 5 rfl
    replace d6 := H2.out.cell 6 rfl
    replace d7 := H2.out.cell 7 rfl
    replace d8 := H2.out.cell 8 rfl
    replace d9 := H2.out.cell 9 rfl
    replace d10 := H2.out.cell 10 rfl
    replace d11 := H2.out.cell 11 rfl
    replace d12 := H2.out.cell 12 rfl
    replace d13 := H2.out.cell 13 rfl
    replace d14 := H2.out.cell 14 rfl
    replace d15 := H2.out.cell 15 rfl
    replace d16 := H2.out.cell 16 rfl
    replace d17 := H2.out.cell 17 rfl
    clear h2
    go_wp2_with fail
    refine (HI.out _ _ t _ H2.out HT.out.1 HT.out.2).mono ?_
    rintro e w3 ⟨rfl,h3⟩
    have H3 := Lib.hid h3
    clear h3
    go_wp2
    go_ret
    exact ⟨by simp,H3.out.drop⟩
   ·go_enter Tryz.func95,Tryz.ntmps95
    go_wp2_with fail
    refine HL2.out.mono ?_
    rintro e w2 ⟨rfl,h2⟩
    have H2 := Lib.hid h2
    replace d0 := H2.out.cell 0 rfl
    replace d1 := H2.out.cell 1 rfl
    replace d2 := H2.out.cell 2 rfl
    replace d3 := H2.out.cell 3 rfl
    replace d4 := H2.out.cell 4 rfl
    replace d5 := H2.out.cell 5 rfl
    replace d6 := H2.out.cell 6 rfl
    replace d7 := H2.out.cell 7 rfl
    replace d8 := H2.out.cell 8 rfl
    replace d9 := H2.out.cell 9 rfl
    replace d10 := H2.out.cell 10 rfl
    replace d11 := H2.out.cell 11 rfl
    replace d12 := H2.out.cell 12 rfl
    replace d13 := H2.out.cell 13 rfl
    replace d14 := H2.out.cell 14 rfl
    replace d15 := H2.out.cell 15 rfl
    replace d16 := H2.out.cell 16 rfl
    replace d17 := H2.out.cell 17 rfl
    clear h2
    go_wp2
    go_ret
    exact ⟨by simp,H2.out.drop⟩
  | [v] =>
   cases o with
   | true =>
    go_enter Tryz.func95,Tryz.ntmps95
    go_wp2_with fail
    refine HL2.out.mono ?_
    rintro e w2 ⟨rfl,h2⟩
    have H2 := Lib.hid h2
    replace d0 := H2.out.cell 0 rfl
    replace d1 := H2.out.cell 1 rfl
    replace d2 := H2.out.cell 2 rfl
    replace d3 := H2.out.cell 3 rfl
    replace d4 := H2.out.cell 4 rfl
    replace d5 := H2.out.cell 5 rfl
    replace d6 := H2.out.cell 6 rfl
    replace d7 := H2.out.cell 7 rfl
    replace d8 := H2.out.cell 8 rfl
    replace d9 := H2.out.cell 9 rfl
    replace d10 := H2.out.cell 10 rfl
    replace d11 := H2.out.cell 11 rfl
    replace d12 := H2.out.cell 12 rfl
    replace d13 := H2.out.cell 13 rfl
    replace d14 := H2.out.cell 14 rfl
    replace d15 := H2.out.cell 15 rfl
    replace d16 := H2.out.cell 16 rfl
    replace d17 := H2.out.cell 17 rfl
    clear h2
    go_wp2
    go_ret
    exact ⟨by simp,H2.out.drop⟩
   | false =>
    cases ch with
    | true =>
     go_enter Tryz.func95,Tryz.ntmps95
     go_wp2_with fail
     refine HL2.out.mono ?_
     rintro e w2 ⟨rfl,h2⟩
     have H2 := Lib.hid h2
     replace d0 := H2.out.cell 0 rfl
     replace d1 := H2.out.cell 1 rfl
     replace d2 := H2.out.cell 2 rfl
     replace d3 := H2.out.cell 3 rfl
     replace d4 := H2.out.cell 4 rfl
     replace d5 := H2.out.cell 5 rfl
     replace d6 := H2.out.cell 6 rfl
     replace d7 := H2.out.cell 7 rfl
     replace d8 := H2.out.cell 8 rfl
     replace d9 := H2.out.cell 9 rfl
     replace d10 := H2.out.cell 10 rfl
     replace d11 := H2.out.cell 11 rfl
     replace d12 := H2.out.cell 12 rfl
     replace d13 := H2.out.cell 13 rfl
     replace d14 := H2.out.cell 14 rfl
     replace d15 := H2.out.cell 15 rfl
     replace d16 := H2.out.cell 16 rfl
     replace d17 := H2.out.cell 17 rfl
     clear h2
     go_wp2
     go_ret
     exact ⟨by simp,H2.out.drop⟩
    | false =>
     obtain ⟨ad,vs,rfl,hcl,hKv,hcell0⟩ := Kd.C_get HV.out.1 zVal 0 (by omega) (by simp)
     have hcell : ∀ (j : Nat) (u : Value),vs[j]? = some u → w0.cell? (ad.add j) = some u := fun j u hu => by have := hcell0 j u hu; rwa [show (0 : Int).toNat * kVal.sz + j = j by simp] at this
     obtain ⟨A3,c3,A4,c4,rfl, -⟩ := PScopeResolves.k109_open (show kVal.K w0 v vs from hKv)
     have HD := Lib.hid (fun (W : World) (Q : HP) (h : S w0 W Q) => def_calls v A3 c3 A4 c4 h (HV.out.2 v (by simp) 1))
     go_enter Tryz.func95,Tryz.ntmps95
     go_wp2_with fail
     refine HL2.out.mono ?_
     rintro e w2 ⟨rfl,h2⟩
     have H2 := Lib.hid h2
     replace d0 := H2.out.cell 0 rfl
     replace d1 := H2.out.cell 1 rfl
     replace d2 := H2.out.cell 2 rfl
     replace d3 := H2.out.cell 3 rfl
     replace d4 := H2.out.cell 4 rfl
     replace d5 := H2.out.cell 5 rfl
     replace d6 := H2.out.cell 6 rfl
     replace d7 := H2.out.cell 7 rfl
     replace d8 := H2.out.cell 8 rfl
     replace d9 := H2.out.cell 9 rfl
     replace d10 := H2.out.cell 10 rfl
     replace d11 := H2.out.cell 11 rfl
     replace d12 := H2.out.cell 12 rfl
     replace d13 := H2.out.cell 13 rfl
     replace d14 := H2.out.cell 14 rfl
     replace d15 := H2.out.cell 15 rfl
     replace d16 := H2.out.cell 16 rfl
     replace d17 := H2.out.cell 17 rfl
     clear h2
     have e0 : w2.cell? ad = some (.int .i64 v.f0) := by have h := pw_cell_below H2.out.below (hcell 0 _ rfl); rwa [show ad.add 0 = ad by obtain ⟨b,o,s⟩ := ad; cases s <;> simp [Addr.add]] at h
     have e1 : w2.cell? ⟨ad.block,ad.off + 1,none⟩ = some (.int .i64 v.f1) := by rw [← add_field1 ad 1 (by omega)]; exact pw_cell_below H2.out.below (hcell 1 _ rfl)
     have e2 : w2.cell? ⟨ad.block,ad.off + 2,none⟩ = some (.string v.f2) := by rw [← add_field1 ad 2 (by omega)]; exact pw_cell_below H2.out.below (hcell 2 _ rfl)
     have e3 : w2.cell? ⟨ad.block,ad.off + 3,none⟩ = some (.slice A3 v.f3.length c3) := by rw [← add_field1 ad 3 (by omega)]; exact pw_cell_below H2.out.below (hcell 3 _ rfl)
     have e4 : w2.cell? ⟨ad.block,ad.off + 4,none⟩ = some (.slice A4 v.f4.length c4) := by rw [← add_field1 ad 4 (by omega)]; exact pw_cell_below H2.out.below (hcell 4 _ rfl)
     clear hcell hcell0 hcl hKv
     cases hv : valB v with
     | false =>
      have HVB : Hid ([v].all valB = false) := Lib.hid (by simp [hv])
      have HD2 := Lib.hid (HD.out _ _ H2.out)
      rw [hv] at HD2
      clear hv
      go_wp2_with fail
      refine HD2.out.mono ?_
      rintro e w4 ⟨rfl,h4⟩
      have H4 := Lib.hid h4
      clear h4
      go_wp2
      go_ret
      exact ⟨by rw [HVB.out]; simp,H4.out.drop⟩
     | true =>
      have HVB : Hid ([v].all valB = true) := Lib.hid (by simp [hv])
      have HD2 := Lib.hid (HD.out _ _ H2.out)
      rw [hv] at HD2
      clear hv
      go_wp2_with fail
      refine HD2.out.mono ?_
      rintro e w4 ⟨rfl,h4⟩
      have H4 := Lib.hid h4
      replace d0 := H4.out.cell 0 rfl
      replace d1 := H4.out.cell 1 rfl
      replace d2 := H4.out.cell 2 rfl
      replace d3 := H4.out.cell 3 rfl
      replace d4 := H4.out.cell 4 rfl
      replace d5 := H4.out.cell 5 rfl
      replace d6 := H4.out.cell 6 rfl
      replace d7 := H4.out.cell 7 rfl
      replace d8 := H4.out.cell 8 rfl
      replace d9 := H4.out.cell 9 rfl
      replace d10 := H4.out.cell 10 rfl
      replace d11 := H4.out.cell 11 rfl
      replace d12 := H4.out.cell 12 rfl
      replace d13 := H4.out.cell 13 rfl
      replace d14 := H4.out.cell 14 rfl
      replace d15 := H4.out.cell 15 rfl
      replace d16 := H4.out.cell 16 rfl
      replace d17 := H4.out.cell 17 rfl
      clear h4 e0 e1 e2 e3 e4
      go_wp2_with fail
      refine (HI.out _ _ t _ H4.out HT.out.1 HT.out.2).mono ?_
      rintro e w3 ⟨rfl,h3⟩
      have H3 := Lib.hid h3
      clear h3
      go_wp2
      go_ret
      exact ⟨by rw [HVB.out]; simp,H3.out.drop⟩
  | v :: v2 :: r =>
   have z1 : decide (1 < (v :: v2 :: r).length) = true := by simp
   have z2 : decide ((1 : Int) < ((v :: v2 :: r).length : Int)) = true := by simp; omega
   rw [z1]
   cases o
   all_goals
    go_enter Tryz.func95,Tryz.ntmps95
    go_wp2_with fail
    refine HL2.out.mono ?_
    rintro e w2 ⟨rfl,h2⟩
    have H2 := Lib.hid h2
    replace d0 := H2.out.cell 0 rfl
    replace d16 := H2.out.cell 16 rfl
    replace d17 := H2.out.cell 17 rfl
    clear h2
    go_wp2
    go_ret
    exact ⟨by simp,H2.out.drop⟩
end Go.Proofs.YtbjddomocggjmaaGreat.Sc
