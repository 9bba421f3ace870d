/- only, sized of the reference of layer 8: walked. -/
import Derived.Deep.Cut
import Derived.Test.YtbjddomocggjmaaGreatLM
import Derived.Test.YtbjddomocggjmaaGreatLY
section
namespace Go.Proofs.YtbjddomocggjmaaGreat.Sc
open Go.RowKit Go.ChangeShapes Go.WideShapes Go.Proofs.YtbjddomocggjmaaGreat.Sep
open Go.Proofs.YtbjddomocggjmaaGreatW.PrintWords
variable {B : Nat} {w0 w : World} {R : HP}
def imB (x : Im) : Bool := nameB x.f1 && !decide (x.f0.length = 0) && !decide (256 < x.f0.length) && x.f0.all nameB
def dfB (d : Df) : Bool := nameB d.n && shapedB 40 d.t
def mdB (m : Md) : Bool := nameB m.n && !decide (256 < m.im.length) && !decide (256 < m.df.length) && (m.im.all imB && m.df.all dfB)
theorem bad_name_tells (l : List ByteArray) (ho : ∀ s ∈ l,oS s) : TellsS w0 R 30 #[] l (fun s => !nameB s) := by
 intro W s h hs
 have hl := name_calls s h (ho s hs)
 clear h
 show Calls Tryz.prog 30 #[.string s] W _
 go_enter Tryz.func30,Tryz.ntmps30
 go_wp2_with fail
 refine hl.mono ?_
 rintro e w1 ⟨rfl,h1⟩
 have H1 := Lib.hid h1
 clear h1
 go_wp2
 go_ret
 exact ⟨rfl,H1.out⟩
set_option maxHeartbeats 4000000 in
set_option maxRecDepth 100000 in
theorem bad_def_tells (l : List Df) (ho : ∀ d ∈ l,oDf d) : Tells kDf w0 R 32 #[] l (fun d => !dfB d) := by
 intro W d h hd cs hK
 obtain ⟨ts,rfl,hT⟩ := kDf_open hK
 have HN := Lib.hid (fun (W : World) (Q : HP) (h : S w0 W Q) => name_calls d.n h (ho d hd).1)
 have HT := Lib.hid (fun (W : World) (Q : HP) (h : S w0 W Q) => type_calls d.t ts h hT (ho d hd).2)
 obtain ⟨A7,c7,A10,c10,A11,c11,A12,c12,A13,c13,A14,c14,rfl, -⟩ := kTy_open hT
 show Calls Tryz.prog 32 #[.agg #[.string d.n,.int .i64 d.t.k,.string d.t.n,.int .i64 d.t.c.f0,.int .i64 d.t.c.f1,.int .i64 d.t.c.f2,.bool d.t.c.f3,.bool d.t.c.f4,.slice A7 d.t.c.f5.length c7,.bool d.t.e,.string d.t.fr,.slice A10 d.t.ns.length c10,.slice A11 d.t.mo.length c11,.slice A12 d.t.ps.length c12,.slice A13 d.t.ad.length c13,.slice A14 d.t.el.length c14]] W fun e w' => e = .returned (.bool (!(nameB d.n && shapedB 40 d.t))) ∧ S w0 w' R
 have H := Lib.hid (h.alloc (.cells #[.string d.n,.int .i64 d.t.k,.string d.t.n,.int .i64 d.t.c.f0,.int .i64 d.t.c.f1,.int .i64 d.t.c.f2,.bool d.t.c.f3,.bool d.t.c.f4,.slice A7 d.t.c.f5.length c7,.bool d.t.e,.string d.t.fr,.slice A10 d.t.ns.length c10,.slice A11 d.t.mo.length c11,.slice A12 d.t.ps.length c12,.slice A13 d.t.ad.length c13,.slice A14 d.t.el.length c14] 40))
 have d0 := H.out.cell 0 rfl
 have d1 := H.out.cell 1 rfl
 have d2 := H.out.cell 2 rfl
 have d3 := H.out.cell 3 rfl
 have d4 := H.out.cell 4 rfl
 have d5 := H.out.cell 5 rfl
 have d6 := H.out.cell 6 rfl
 have d7 := H.out.cell 7 rfl
 have d8 := H.out.cell 8 rfl
 have d9 := H.out.cell 9 rfl
 have d10 := H.out.cell 10 rfl
 have d11 := H.out.cell 11 rfl
 have d12 := H.out.cell 12 rfl
 have d13 := H.out.cell 13 rfl
 have d14 := H.out.cell 14 rfl
 have d15 := H.out.cell 15 rfl
 clear h hK ho hd
 have HN2 := Lib.hid (HN.out _ _ H.out)
 generalize nameB d.n = q at *
 cases q with
 | false =>
  go_enter Tryz.func32,Tryz.ntmps32
  go_wp2_with fail
  refine HN2.out.mono ?_
  rintro e w2 ⟨rfl,h2⟩
  have H2 := Lib.hid h2
  clear h2
  go_wp2
  go_ret
  exact ⟨rfl,H2.out.drop⟩
 | true =>
  go_enter Tryz.func32,Tryz.ntmps32
  go_wp2_with fail
  refine HN2.out.mono ?_
  rintro e w2 ⟨rfl,h2⟩
  have H2 := Lib.hid h2
  replace d0 := H2.out.cell 0 rfl
  replace d1 := H2.out.cell 1 rfl
  replace d2 := H2.out.cell 2 rfl
  replace d3 := H2.out.cell 3 rfl
  replace d4 := H2.out.cell 4 rfl
  replace d5 := H2.out.cell 5 rfl
  replace d6 := H2.out.cell 6 rfl
  replace d7 := H2.out.cell 7 rfl
  replace d8 := H2.out.cell 8 rfl
  replace d9 := H2.out.cell 9 rfl
  replace d10 := H2.out.cell 10 rfl
  replace d11 := H2.out.cell 11 rfl
  replace d12 := H2.out.cell 12 rfl
  replace d13 := H2.out.cell 13 rfl
  replace d14 := H2.out.cell 14 rfl
  replace d15 := H2.out.cell 15 rfl
  clear h2
  go_wp2_with fail
  refine (HT.out _ _ H2.out).mono ?_
  rintro e w3 ⟨rfl,h3⟩
  have H3 := Lib.hid h3
  clear h3
  go_wp2
  go_ret
  exact ⟨rfl,H3.out.drop⟩
set_option maxHeartbeats 8000000 in
set_option maxRecDepth 100000 in
theorem module_calls (m : Md) (A2 : Option Addr) (c2 : Nat) (A3 : Option Addr) (c3 : Nat) (h : S w0 w R) (l2 : kIm.C w0 A2 m.im.length m.im) (l3 : kDf.C w0 A3 m.df.length m.df) (ho : oMd m) :
  Calls Tryz.prog 13 #[.agg #[.string m.n,.bool m.au,.slice A2 m.im.length c2,.slice A3 m.df.length c3]] w fun e w' => e = .returned (.bool (mdB m)) ∧ S w0 w' R := by
 have eg1 : ∀ args w,(callFunc 30 args).run Tryz.prog w = .ok (.enter 30 args) w := enters_of Tryz.func30 (by kernel_rfl) rfl
 have eg2 : ∀ args w,(callFunc 32 args).run Tryz.prog w = .ok (.enter 32 args) w := enters_of Tryz.func32 (by kernel_rfl) rfl
 have hl2 : m.im.length ≤ 9223372036854775807 := l2.2.1
 have hl3 : m.df.length ≤ 9223372036854775807 := l3.2.1
 have HN := Lib.hid (fun (W : World) (Q : HP) (h : S w0 W Q) => name_calls m.n h ho.1)
 have HM := Lib.hid (fun (W : World) (Q : HP) (s : ByteArray) (hs : oS s) (h : S w0 W Q) => name_calls s h hs)
 have HI := Lib.hid (And.intro l2 ho.2.1.2)
 have HS := Lib.hid (fun (W : World) (Q : HP) (A : Option Addr) (c : Nat) (l : List ByteArray) (hC : Kd.string.C w0 A l.length l) (h : S w0 W Q) (ho : ∀ s ∈ l,oS s) => contains_strs _ _ eg1 _ A c l hC h (bad_name_tells l ho))
 have HF := Lib.hid (fun (W : World) (Q : HP) (h : S w0 W Q) => contains_dfs _ _ eg2 _ A3 c3 m.df l3 h (bad_def_tells m.df ho.2.2.2))
 have H := Lib.hid (h.alloc (.cells #[.string m.n,.bool m.au,.slice A2 m.im.length c2,.slice A3 m.df.length c3] 44))
 have d0 := H.out.cell 0 rfl
 have d2 := H.out.cell 2 rfl
 have d3 := H.out.cell 3 rfl
 have HN2 := Lib.hid (HN.out _ _ H.out)
 unfold mdB
 rw [all_any dfB]
 clear h l2 l3 ho eg1 eg2
 generalize nameB m.n = q at *
 cases q with
 | false =>
  go_enter Tryz.func13,Tryz.ntmps13
  go_wp2_with fail
  refine HN2.out.mono ?_
  rintro e w2 ⟨rfl,h2⟩
  have H2 := Lib.hid h2
  clear h2
  go_wp2
  go_ret
  exact ⟨rfl,H2.out.drop⟩
 | true =>
 rw [Bool.true_and]
 by_cases q1 : 256 < m.im.length
 ·have p1 : decide ((256 : Int) < (m.im.length : Int)) = true := decide_eq_true (by omega)
  rw [decide_eq_true q1]
  clear q1
  go_enter Tryz.func13,Tryz.ntmps13
  go_wp2_with fail
  refine HN2.out.mono ?_
  rintro e w2 ⟨rfl,h2⟩
  have H2 := Lib.hid h2
  replace d2 := H2.out.cell 2 rfl
  replace d3 := H2.out.cell 3 rfl
  clear h2
  go_wp2
  go_ret
  exact ⟨rfl,H2.out.drop⟩
 have p1 : decide ((256 : Int) < (m.im.length : Int)) = false := decide_eq_false (by omega)
 rw [decide_eq_false q1,Bool.not_false,Bool.true_and]
 clear q1
 by_cases q2 : 256 < m.df.length
 ·have p2 : decide ((256 : Int) < (m.df.length : Int)) = true := decide_eq_true (by omega)
  rw [decide_eq_true q2]
  clear q2
  go_enter Tryz.func13,Tryz.ntmps13
  go_wp2_with fail
  refine HN2.out.mono ?_
  rintro e w2 ⟨rfl,h2⟩
  have H2 := Lib.hid h2
  replace d2 := H2.out.cell 2 rfl
  replace d3 := H2.out.cell 3 rfl
  clear h2
  go_wp2
  go_ret
  exact ⟨rfl,H2.out.drop⟩
 have p2 : decide ((256 : Int) < (m.df.length : Int)) = false := decide_eq_false (by omega)
 rw [decide_eq_false q2,Bool.not_false,Bool.true_and]
 clear q2
 go_enter Tryz.func13,Tryz.ntmps13
 go_wp2_with fail
 refine HN2.out.mono ?_
 rintro e w2 ⟨rfl,h2⟩
 have H2 := Lib.hid h2
 replace d2 := H2.out.cell 2 rfl
 replace d3 := H2.out.cell 3 rfl
 clear h2 H HN HN2 d0
 go_wp2
 go_loopw [24] (fun v wr => ∃ x : Int,0 ≤ x ∧ x ≤ m.im.length ∧ v = .int .i64 x ∧ Hid (S w0 wr (Blk w.heap.size (.cells #[.string m.n,.bool m.au,.slice A2 m.im.length c2,.slice A3 m.df.length c3] 44) • R)) ∧ Hid (∀ y ∈ m.im.take x.toNat,imB y = true)) (fun v _ => m.im.length - (intOf v).toNat)
 case atStart => exact ⟨0,Int.le_refl _,by omega,rfl,H2,Lib.hid (by simp)⟩
 case round =>
  clear H2 d2 d3
  obtain ⟨x,hx0,hx1,rfl,HR,HT⟩ := hrel
  by_cases hlt : x < m.im.length
  ·obtain ⟨ad,cs,rfl,hcl0,hK,hcell0⟩ := Kd.C_get HI.out.1 zIm x hx0 hlt
   have hcell : ∀ (j : Nat) (u : Value),cs[j]? = some u → w0.cell? (ad.add (x.toNat * 2 + j)) = some u := hcell0
   clear hcell0 hcl0
   have HG := Lib.hid (getD_mem m.im zIm x hx0 hlt)
   obtain ⟨A0,c0,rfl, -,hC0⟩ := PScopeResolves.k50_open (id hK)
   generalize m.im.getD x.toNat zIm = r at *
   have hor := HI.out.2 r (List.mem_of_getElem? HG.out)
   have HC := Lib.hid (And.intro hC0 hor)
   have hr1 : r.f0.length ≤ 140737488355328 := hor.1
   have e0 : wr.cell? (ad.add (x.toNat * 2)) = some (.slice A0 r.f0.length c0) := pw_cell_below HR.out.below (hcell 0 _ rfl)
   have e1 : wr.cell? ⟨(ad.add (x.toNat * 2)).block,(ad.add (x.toNat * 2)).off + 1,none⟩ = some (.string r.f1) := by rw [← add_field _ _ 1 (by omega)]; exact pw_cell_below HR.out.below (hcell 1 _ rfl)
   have H3 := Lib.hid (HR.out.alloc (.cells #[.slice A0 r.f0.length c0,.string r.f1] 50))
   have f0 := H3.out.cell 0 rfl
   have f1 := H3.out.cell 1 rfl
   have p126 := eq_true hx0
   have q126 : (x < (m.im.length : Int)) = True := eq_true hlt
   have HX : Hid (∀ b,imB r = b → b = true → ∀ y ∈ m.im.take (x + 1).toNat,imB y = true) := Lib.hid fun b hb hbt y hy => by
    have e1 : (x + 1).toNat = x.toNat + 1 := by omega
    rw [e1,List.take_add_one,HG.out] at hy
    rcases List.mem_append.1 hy with hy | hy
    ·exact HT.out y hy
    ·obtain rfl : y = r := by simpa using hy
     rw [hb,hbt]
   have HY : Hid (imB r = false → m.im.all imB = false) := Lib.hid fun hb => List.all_eq_false.2 ⟨r,List.mem_of_getElem? HG.out,by rw [hb]; simp⟩
   have HE : Hid (imB r = (nameB r.f1 && !decide (r.f0.length = 0) && !decide (256 < r.f0.length) && r.f0.all nameB)) := Lib.hid rfl
   have HN3 := Lib.hid (HM.out _ _ r.f1 HC.out.2.2.2 H3.out)
   clear hcell hK hC0 hor
   generalize imB r = ib at *
   generalize nameB r.f1 = q at *
   cases q with
   | false =>
    have HZ := Lib.hid (HY.out (by rw [HE.out]; rfl))
    go_wp2_with fail
    refine HN3.out.mono ?_
    rintro e w4 ⟨rfl,h4⟩
    have H4 := Lib.hid h4
    clear h4
    go_wp2
    go_ret
    exact ⟨by rw [HZ.out]; rfl,H4.out.drop.drop⟩
   | true =>
   by_cases q3 : r.f0.length = 0
   ·have p3 : ((r.f0.length : Int) == 0) = true := beq_iff_eq.2 (by omega)
    have HZ := Lib.hid (HY.out (by rw [HE.out,decide_eq_true q3]; rfl))
    clear q3
    go_wp2_with fail
    refine HN3.out.mono ?_
    rintro e w4 ⟨rfl,h4⟩
    have H4 := Lib.hid h4
    replace f0 := H4.out.cell 0 rfl
    clear h4
    go_wp2
    go_ret
    exact ⟨by rw [HZ.out]; rfl,H4.out.drop.drop⟩
   have p3 : ((r.f0.length : Int) == 0) = false := beq_eq_false_iff_ne.2 (by omega)
   by_cases q4 : 256 < r.f0.length
   ·have p4 : decide ((256 : Int) < (r.f0.length : Int)) = true := decide_eq_true (by omega)
    have HZ := Lib.hid (HY.out (by rw [HE.out,decide_eq_false q3,decide_eq_true q4]; rfl))
    clear q3 q4
    go_wp2_with fail
    refine HN3.out.mono ?_
    rintro e w4 ⟨rfl,h4⟩
    have H4 := Lib.hid h4
    replace f0 := H4.out.cell 0 rfl
    clear h4
    go_wp2
    go_ret
    exact ⟨by rw [HZ.out]; rfl,H4.out.drop.drop⟩
   have p4 : decide ((256 : Int) < (r.f0.length : Int)) = false := decide_eq_false (by omega)
   have HE2 : Hid (ib = !(r.f0.any fun s => !nameB s)) := Lib.hid (by rw [HE.out,decide_eq_false q3,decide_eq_false q4,all_any]; rfl)
   clear q3 q4 HE
   go_wp2_with fail
   refine HN3.out.mono ?_
   rintro e w4 ⟨rfl,h4⟩
   have H4 := Lib.hid h4
   replace f0 := H4.out.cell 0 rfl
   clear h4 HN3
   have HS2 := Lib.hid (HS.out _ _ A0 c0 r.f0 HC.out.1 H4.out HC.out.2.2.1)
   generalize (r.f0.any fun s => !nameB s) = q5 at *
   cases q5 with
   | true =>
    have HZ := Lib.hid (HY.out (by rw [HE2.out]; rfl))
    go_wp2_with fail
    refine HS2.out.mono ?_
    rintro e w5 ⟨rfl,h5⟩
    have H5 := Lib.hid h5
    clear h5
    go_wp2
    go_ret
    exact ⟨by rw [HZ.out]; rfl,H5.out.drop.drop⟩
   | false =>
    have HZ := Lib.hid (HX.out ib rfl (by rw [HE2.out]; rfl))
    go_wp2_with fail
    refine HS2.out.mono ?_
    rintro e w5 ⟨rfl,h5⟩
    have H5 := Lib.hid h5.drop
    clear h5 e0 e1 f0 f1
    go_wp2
    exact ⟨⟨x + 1,by omega,by omega,by go_num,H5,HZ⟩,by simp only [intOf]; omega⟩
  ·have hlt' : (x < (m.im.length : Int)) = False := eq_false hlt
   have HZ : Hid (m.im.all imB = true) := Lib.hid (List.all_eq_true.2 fun y hy => HT.out y (by rw [List.take_of_length_le (by omega)]; exact hy))
   have d3 := HR.out.cell 3 rfl
   go_wp2_with fail
   refine (HF.out _ _ HR.out).mono ?_
   rintro e w5 ⟨rfl,h5⟩
   have H5 := Lib.hid h5
   clear h5
   go_wp2
   go_ret
   exact ⟨by rw [HZ.out]; rfl,H5.out.drop⟩
end Go.Proofs.YtbjddomocggjmaaGreat.Sc
end
section
namespace Go.Proofs.YtbjddomocggjmaaGreat.Sc
open Go.RowKit Go.ChangeShapes Go.WideShapes Go.Proofs.YtbjddomocggjmaaGreat.Sep
open Go.Proofs.YtbjddomocggjmaaGreatW.PrintWords
variable {B : Nat} {w0 w : World} {R : HP}
def onlyB (a0 a1 a2 a3 a4 a5 a6 : Bool) (t : Ty) : Bool := (a0 || noS t.n) && (a1 || (t.c.f0 == 0)) && (a2 || !t.e) && (a3 || noS t.fr) && (a4 || ((t.ns.length : Int) + t.mo.length == 0)) && (a5 || ((t.ps.length : Int) + t.ad.length == 0)) && (a6 || ((t.el.length : Int) == 0))
theorem ty_cells {g : Nat} {e : TypeId} {t : Ty} {A7 A10 A11 A12 A13 A14 : Option Addr} {c7 c10 c11 c12 c13 c14 : Nat} (h : St B w0 w (Blk g (.cells #[.int .i64 t.k,.string t.n,.int .i64 t.c.f0,.int .i64 t.c.f1,.int .i64 t.c.f2,.bool t.c.f3,.bool t.c.f4,.slice A7 t.c.f5.length c7,.bool t.e,.string t.fr,.slice A10 t.ns.length c10,.slice A11 t.mo.length c11,.slice A12 t.ps.length c12,.slice A13 t.ad.length c13,.slice A14 t.el.length c14] e) • R)) : w.cell? ⟨g,0,none⟩ = some (.int .i64 t.k) ∧ w.cell? ⟨g,1,none⟩ = some (.string t.n) ∧ w.cell? ⟨g,2,none⟩ = some (.int .i64 t.c.f0) ∧ w.cell? ⟨g,3,none⟩ = some (.int .i64 t.c.f1) ∧ w.cell? ⟨g,4,none⟩ = some (.int .i64 t.c.f2) ∧ w.cell? ⟨g,5,none⟩ = some (.bool t.c.f3) ∧ w.cell? ⟨g,6,none⟩ = some (.bool t.c.f4) ∧ w.cell? ⟨g,7,none⟩ = some (.slice A7 t.c.f5.length c7) ∧ w.cell? ⟨g,8,none⟩ = some (.bool t.e) ∧ w.cell? ⟨g,9,none⟩ = some (.string t.fr) ∧ w.cell? ⟨g,10,none⟩ = some (.slice A10 t.ns.length c10) ∧ w.cell? ⟨g,11,none⟩ = some (.slice A11 t.mo.length c11) ∧ w.cell? ⟨g,12,none⟩ = some (.slice A12 t.ps.length c12) ∧ w.cell? ⟨g,13,none⟩ = some (.slice A13 t.ad.length c13) ∧ w.cell? ⟨g,14,none⟩ = some (.slice A14 t.el.length c14) :=
 ⟨h.cell 0 rfl,h.cell 1 rfl,h.cell 2 rfl,h.cell 3 rfl,h.cell 4 rfl,h.cell 5 rfl,h.cell 6 rfl,h.cell 7 rfl,h.cell 8 rfl,h.cell 9 rfl,h.cell 10 rfl,h.cell 11 rfl,h.cell 12 rfl,h.cell 13 rfl,h.cell 14 rfl⟩
theorem cascf4 (a b c d : Bool) : a = false ∨ a = true ∧ (b = false ∨ b = true ∧ (c = false ∨ c = true ∧ (d = false ∨ d = true))) := by
 cases a <;> cases b <;> cases c <;> cases d <;> simp
theorem cascf5 (a b c d e : Bool) : a = false ∨ a = true ∧ (b = false ∨ b = true ∧ (c = false ∨ c = true ∧ (d = false ∨ d = true ∧ (e = false ∨ e = true)))) := by
 cases a <;> cases b <;> cases c <;> cases d <;> cases e <;> simp
theorem cascf6 (a b c d e f : Bool) : a = false ∨ a = true ∧ (b = false ∨ b = true ∧ (c = false ∨ c = true ∧ (d = false ∨ d = true ∧ (e = false ∨ e = true ∧ (f = false ∨ f = true))))) := by
 cases a <;> cases b <;> cases c <;> cases d <;> cases e <;> cases f <;> simp
theorem cascf7 (a b c d e f g : Bool) : a = false ∨ a = true ∧ (b = false ∨ b = true ∧ (c = false ∨ c = true ∧ (d = false ∨ d = true ∧ (e = false ∨ e = true ∧ (f = false ∨ f = true ∧ (g = false ∨ g = true)))))) := by
 cases a <;> cases b <;> cases c <;> cases d <;> cases e <;> cases f <;> cases g <;> simp
set_option maxHeartbeats 16000000 in
set_option maxRecDepth 100000 in
theorem only0_calls (t : Ty) (cs : List Value) (h : S w0 w R) (hK : kTy.K w0 t cs) (ho : oTy t) :
  Calls Tryz.prog 83 #[.agg cs.toArray,.bool false,.bool false,.bool false,.bool false,.bool false,.bool false,.bool false] w fun e w' => e = .returned (.bool (onlyB false false false false false false false t)) ∧ S w0 w' R := by
 obtain ⟨A7,c7,A10,c10,A11,c11,A12,c12,A13,c13,A14,c14,rfl, -⟩ := kTy_open hK
 show Calls Tryz.prog 83 #[.agg #[.int .i64 t.k,.string t.n,.int .i64 t.c.f0,.int .i64 t.c.f1,.int .i64 t.c.f2,.bool t.c.f3,.bool t.c.f4,.slice A7 t.c.f5.length c7,.bool t.e,.string t.fr,.slice A10 t.ns.length c10,.slice A11 t.mo.length c11,.slice A12 t.ps.length c12,.slice A13 t.ad.length c13,.slice A14 t.el.length c14],.bool false,.bool false,.bool false,.bool false,.bool false,.bool false,.bool false] w _
 obtain ⟨-, -, -, -,⟨o1, -⟩,⟨o2, -⟩,⟨o3, -⟩,⟨o4, -⟩,o5, -⟩ := ho 1
 unfold oL M at o1 o2 o3 o4 o5
 have w1 : IntKind.i64.wrap ((t.ns.length : Int) + (t.mo.length : Int)) = (t.ns.length : Int) + t.mo.length := IntWalk.i64_in _ (by omega)
 have w2 : IntKind.i64.wrap ((t.ps.length : Int) + (t.ad.length : Int)) = (t.ps.length : Int) + t.ad.length := IntWalk.i64_in _ (by omega)
 have H := Lib.hid (h.alloc (.cells #[.int .i64 t.k,.string t.n,.int .i64 t.c.f0,.int .i64 t.c.f1,.int .i64 t.c.f2,.bool t.c.f3,.bool t.c.f4,.slice A7 t.c.f5.length c7,.bool t.e,.string t.fr,.slice A10 t.ns.length c10,.slice A11 t.mo.length c11,.slice A12 t.ps.length c12,.slice A13 t.ad.length c13,.slice A14 t.el.length c14] 38))
 obtain ⟨d0,d1,d2,d3,d4,d5,d6,d7,d8,d9,d10,d11,d12,d13,d14⟩ := ty_cells H.out
 have HE : Hid (onlyB false false false false false false false t = ((t.n.toList == ([] : List UInt8)) && (t.c.f0 == 0) && !t.e && (t.fr.toList == ([] : List UInt8)) && ((t.ns.length : Int) + (t.mo.length : Int) == 0) && ((t.ps.length : Int) + (t.ad.length : Int) == 0) && ((t.el.length : Int) == 0))) := Lib.hid (by unfold onlyB noS; simp only [Bool.false_or])
 clear h hK ho o1 o2 o3 o4 o5
 go_enter Tryz.func83,Tryz.ntmps83
 go_upto_region 1 with fail
 simp only [List.append_eq,List.cons_append,List.nil_append]
 generalize w.alloc (.cells #[.int .i64 t.k,.string t.n,.int .i64 t.c.f0,.int .i64 t.c.f1,.int .i64 t.c.f2,.bool t.c.f3,.bool t.c.f4,.slice A7 t.c.f5.length c7,.bool t.e,.string t.fr,.slice A10 t.ns.length c10,.slice A11 t.mo.length c11,.slice A12 t.ps.length c12,.slice A13 t.ad.length c13,.slice A14 t.el.length c14] 38) = wx at *
 rcases cascf7 (t.n.toList == ([] : List UInt8)) (t.c.f0 == 0) (!t.e) (t.fr.toList == ([] : List UInt8)) ((t.ns.length : Int) + (t.mo.length : Int) == 0) ((t.ps.length : Int) + (t.ad.length : Int) == 0) ((t.el.length : Int) == 0) with q0 | ⟨q0,q1 | ⟨q1,q2 | ⟨q2,q3 | ⟨q3,q4 | ⟨q4,q5 | ⟨q5,q6 | q6⟩⟩⟩⟩⟩⟩
 all_goals
  try (first | rw [Bool.not_eq_true'] at q2 | rw [Bool.not_eq_false'] at q2)
  go_wp2
  go_ret
  exact ⟨by rw [HE.out]; first | (rw [q0,q1,q2,q3,q4,q5,q6]; rfl) | (rw [q0,q1,q2,q3,q4,q5]; rfl) | (rw [q0,q1,q2,q3,q4]; rfl) | (rw [q0,q1,q2,q3]; rfl) | (rw [q0,q1,q2]; rfl) | (rw [q0,q1]; rfl) | (rw [q0]; rfl),H.out.drop⟩
set_option maxHeartbeats 16000000 in
set_option maxRecDepth 100000 in
theorem only1_calls (t : Ty) (cs : List Value) (h : S w0 w R) (hK : kTy.K w0 t cs) (ho : oTy t) :
  Calls Tryz.prog 83 #[.agg cs.toArray,.bool false,.bool true,.bool true,.bool false,.bool false,.bool false,.bool false] w fun e w' => e = .returned (.bool (onlyB false true true false false false false t)) ∧ S w0 w' R := by
 obtain ⟨A7,c7,A10,c10,A11,c11,A12,c12,A13,c13,A14,c14,rfl, -⟩ := kTy_open hK
 show Calls Tryz.prog 83 #[.agg #[.int .i64 t.k,.string t.n,.int .i64 t.c.f0,.int .i64 t.c.f1,.int .i64 t.c.f2,.bool t.c.f3,.bool t.c.f4,.slice A7 t.c.f5.length c7,.bool t.e,.string t.fr,.slice A10 t.ns.length c10,.slice A11 t.mo.length c11,.slice A12 t.ps.length c12,.slice A13 t.ad.length c13,.slice A14 t.el.length c14],.bool false,.bool true,.bool true,.bool false,.bool false,.bool false,.bool false] w _
 obtain ⟨-, -, -, -,⟨o1, -⟩,⟨o2, -⟩,⟨o3, -⟩,⟨o4, -⟩,o5, -⟩ := ho 1
 unfold oL M at o1 o2 o3 o4 o5
 have w1 : IntKind.i64.wrap ((t.ns.length : Int) + (t.mo.length : Int)) = (t.ns.length : Int) + t.mo.length := IntWalk.i64_in _ (by omega)
 have w2 : IntKind.i64.wrap ((t.ps.length : Int) + (t.ad.length : Int)) = (t.ps.length : Int) + t.ad.length := IntWalk.i64_in _ (by omega)
 have H := Lib.hid (h.alloc (.cells #[.int .i64 t.k,.string t.n,.int .i64 t.c.f0,.int .i64 t.c.f1,.int .i64 t.c.f2,.bool t.c.f3,.bool t.c.f4,.slice A7 t.c.f5.length c7,.bool t.e,.string t.fr,.slice A10 t.ns.length c10,.slice A11 t.mo.length c11,.slice A12 t.ps.length c12,.slice A13 t.ad.length c13,.slice A14 t.el.length c14] 38))
 obtain ⟨d0,d1,d2,d3,d4,d5,d6,d7,d8,d9,d10,d11,d12,d13,d14⟩ := ty_cells H.out
 have HE : Hid (onlyB false true true false false false false t = ((t.n.toList == ([] : List UInt8)) && (t.fr.toList == ([] : List UInt8)) && ((t.ns.length : Int) + (t.mo.length : Int) == 0) && ((t.ps.length : Int) + (t.ad.length : Int) == 0) && ((t.el.length : Int) == 0))) := Lib.hid (by unfold onlyB noS; simp only [Bool.true_or,Bool.false_or,Bool.and_true])
 clear h hK ho o1 o2 o3 o4 o5
 go_enter Tryz.func83,Tryz.ntmps83
 go_upto_region 1 with fail
 simp only [List.append_eq,List.cons_append,List.nil_append]
 generalize w.alloc (.cells #[.int .i64 t.k,.string t.n,.int .i64 t.c.f0,.int .i64 t.c.f1,.int .i64 t.c.f2,.bool t.c.f3,.bool t.c.f4,.slice A7 t.c.f5.length c7,.bool t.e,.string t.fr,.slice A10 t.ns.length c10,.slice A11 t.mo.length c11,.slice A12 t.ps.length c12,.slice A13 t.ad.length c13,.slice A14 t.el.length c14] 38) = wx at *
 rcases cascf5 (t.n.toList == ([] : List UInt8)) (t.fr.toList == ([] : List UInt8)) ((t.ns.length : Int) + (t.mo.length : Int) == 0) ((t.ps.length : Int) + (t.ad.length : Int) == 0) ((t.el.length : Int) == 0) with q0 | ⟨q0,q1 | ⟨q1,q2 | ⟨q2,q3 | ⟨q3,q4 | q4⟩⟩⟩⟩
 all_goals
  go_wp2
  go_ret
  exact ⟨by rw [HE.out]; first | (rw [q0,q1,q2,q3,q4]; rfl) | (rw [q0,q1,q2,q3]; rfl) | (rw [q0,q1,q2]; rfl) | (rw [q0,q1]; rfl) | (rw [q0]; rfl),H.out.drop⟩
set_option maxHeartbeats 16000000 in
set_option maxRecDepth 100000 in
theorem only2_calls (t : Ty) (cs : List Value) (h : S w0 w R) (hK : kTy.K w0 t cs) (ho : oTy t) :
  Calls Tryz.prog 83 #[.agg cs.toArray,.bool false,.bool true,.bool true,.bool true,.bool false,.bool false,.bool false] w fun e w' => e = .returned (.bool (onlyB false true true true false false false t)) ∧ S w0 w' R := by
 obtain ⟨A7,c7,A10,c10,A11,c11,A12,c12,A13,c13,A14,c14,rfl, -⟩ := kTy_open hK
 show Calls Tryz.prog 83 #[.agg #[.int .i64 t.k,.string t.n,.int .i64 t.c.f0,.int .i64 t.c.f1,.int .i64 t.c.f2,.bool t.c.f3,.bool t.c.f4,.slice A7 t.c.f5.length c7,.bool t.e,.string t.fr,.slice A10 t.ns.length c10,.slice A11 t.mo.length c11,.slice A12 t.ps.length c12,.slice A13 t.ad.length c13,.slice A14 t.el.length c14],.bool false,.bool true,.bool true,.bool true,.bool false,.bool false,.bool false] w _
 obtain ⟨-, -, -, -,⟨o1, -⟩,⟨o2, -⟩,⟨o3, -⟩,⟨o4, -⟩,o5, -⟩ := ho 1
 unfold oL M at o1 o2 o3 o4 o5
 have w1 : IntKind.i64.wrap ((t.ns.length : Int) + (t.mo.length : Int)) = (t.ns.length : Int) + t.mo.length := IntWalk.i64_in _ (by omega)
 have w2 : IntKind.i64.wrap ((t.ps.length : Int) + (t.ad.length : Int)) = (t.ps.length : Int) + t.ad.length := IntWalk.i64_in _ (by omega)
 have H := Lib.hid (h.alloc (.cells #[.int .i64 t.k,.string t.n,.int .i64 t.c.f0,.int .i64 t.c.f1,.int .i64 t.c.f2,.bool t.c.f3,.bool t.c.f4,.slice A7 t.c.f5.length c7,.bool t.e,.string t.fr,.slice A10 t.ns.length c10,.slice A11 t.mo.length c11,.slice A12 t.ps.length c12,.slice A13 t.ad.length c13,.slice A14 t.el.length c14] 38))
 obtain ⟨d0,d1,d2,d3,d4,d5,d6,d7,d8,d9,d10,d11,d12,d13,d14⟩ := ty_cells H.out
 have HE : Hid (onlyB false true true true false false false t = ((t.n.toList == ([] : List UInt8)) && ((t.ns.length : Int) + (t.mo.length : Int) == 0) && ((t.ps.length : Int) + (t.ad.length : Int) == 0) && ((t.el.length : Int) == 0))) := Lib.hid (by unfold onlyB noS; simp only [Bool.true_or,Bool.false_or,Bool.and_true])
 clear h hK ho o1 o2 o3 o4 o5
 go_enter Tryz.func83,Tryz.ntmps83
 go_upto_region 1 with fail
 simp only [List.append_eq,List.cons_append,List.nil_append]
 generalize w.alloc (.cells #[.int .i64 t.k,.string t.n,.int .i64 t.c.f0,.int .i64 t.c.f1,.int .i64 t.c.f2,.bool t.c.f3,.bool t.c.f4,.slice A7 t.c.f5.length c7,.bool t.e,.string t.fr,.slice A10 t.ns.length c10,.slice A11 t.mo.length c11,.slice A12 t.ps.length c12,.slice A13 t.ad.length c13,.slice A14 t.el.length c14] 38) = wx at *
 rcases cascf4 (t.n.toList == ([] : List UInt8)) ((t.ns.length : Int) + (t.mo.length : Int) == 0) ((t.ps.length : Int) + (t.ad.length : Int) == 0) ((t.el.length : Int) == 0) with q0 | ⟨q0,q1 | ⟨q1,q2 | ⟨q2,q3 | q3⟩⟩⟩
 all_goals
  go_wp2
  go_ret
  exact ⟨by rw [HE.out]; first | (rw [q0,q1,q2,q3]; rfl) | (rw [q0,q1,q2]; rfl) | (rw [q0,q1]; rfl) | (rw [q0]; rfl),H.out.drop⟩
set_option maxHeartbeats 16000000 in
set_option maxRecDepth 100000 in
theorem only3_calls (t : Ty) (cs : List Value) (h : S w0 w R) (hK : kTy.K w0 t cs) (ho : oTy t) :
  Calls Tryz.prog 83 #[.agg cs.toArray,.bool false,.bool false,.bool true,.bool false,.bool true,.bool false,.bool false] w fun e w' => e = .returned (.bool (onlyB false false true false true false false t)) ∧ S w0 w' R := by
 obtain ⟨A7,c7,A10,c10,A11,c11,A12,c12,A13,c13,A14,c14,rfl, -⟩ := kTy_open hK
 show Calls Tryz.prog 83 #[.agg #[.int .i64 t.k,.string t.n,.int .i64 t.c.f0,.int .i64 t.c.f1,.int .i64 t.c.f2,.bool t.c.f3,.bool t.c.f4,.slice A7 t.c.f5.length c7,.bool t.e,.string t.fr,.slice A10 t.ns.length c10,.slice A11 t.mo.length c11,.slice A12 t.ps.length c12,.slice A13 t.ad.length c13,.slice A14 t.el.length c14],.bool false,.bool false,.bool true,.bool false,.bool true,.bool false,.bool false] w _
 obtain ⟨-, -, -, -,⟨o1, -⟩,⟨o2, -⟩,⟨o3, -⟩,⟨o4, -⟩,o5, -⟩ := ho 1
 unfold oL M at o1 o2 o3 o4 o5
 have w1 : IntKind.i64.wrap ((t.ns.length : Int) + (t.mo.length : Int)) = (t.ns.length : Int) + t.mo.length := IntWalk.i64_in _ (by omega)
 have w2 : IntKind.i64.wrap ((t.ps.length : Int) + (t.ad.length : Int)) = (t.ps.length : Int) + t.ad.length := IntWalk.i64_in _ (by omega)
 have H := Lib.hid (h.alloc (.cells #[.int .i64 t.k,.string t.n,.int .i64 t.c.f0,.int .i64 t.c.f1,.int .i64 t.c.f2,.bool t.c.f3,.bool t.c.f4,.slice A7 t.c.f5.length c7,.bool t.e,.string t.fr,.slice A10 t.ns.length c10,.slice A11 t.mo.length c11,.slice A12 t.ps.length c12,.slice A13 t.ad.length c13,.slice A14 t.el.length c14] 38))
 obtain ⟨d0,d1,d2,d3,d4,d5,d6,d7,d8,d9,d10,d11,d12,d13,d14⟩ := ty_cells H.out
 have HE : Hid (onlyB false false true false true false false t = ((t.n.toList == ([] : List UInt8)) && (t.c.f0 == 0) && (t.fr.toList == ([] : List UInt8)) && ((t.ps.length : Int) + (t.ad.length : Int) == 0) && ((t.el.length : Int) == 0))) := Lib.hid (by unfold onlyB noS; simp only [Bool.true_or,Bool.false_or,Bool.and_true])
 clear h hK ho o1 o2 o3 o4 o5
 go_enter Tryz.func83,Tryz.ntmps83
 go_upto_region 1 with fail
 simp only [List.append_eq,List.cons_append,List.nil_append]
 generalize w.alloc (.cells #[.int .i64 t.k,.string t.n,.int .i64 t.c.f0,.int .i64 t.c.f1,.int .i64 t.c.f2,.bool t.c.f3,.bool t.c.f4,.slice A7 t.c.f5.length c7,.bool t.e,.string t.fr,.slice A10 t.ns.length c10,.slice A11 t.mo.length c11,.slice A12 t.ps.length c12,.slice A13 t.ad.length c13,.slice A14 t.el.length c14] 38) = wx at *
 rcases cascf5 (t.n.toList == ([] : List UInt8)) (t.c.f0 == 0) (t.fr.toList == ([] : List UInt8)) ((t.ps.length : Int) + (t.ad.length : Int) == 0) ((t.el.length : Int) == 0) with q0 | ⟨q0,q1 | ⟨q1,q2 | ⟨q2,q3 | ⟨q3,q4 | q4⟩⟩⟩⟩
 all_goals
  go_wp2
  go_ret
  exact ⟨by rw [HE.out]; first | (rw [q0,q1,q2,q3,q4]; rfl) | (rw [q0,q1,q2,q3]; rfl) | (rw [q0,q1,q2]; rfl) | (rw [q0,q1]; rfl) | (rw [q0]; rfl),H.out.drop⟩
set_option maxHeartbeats 16000000 in
set_option maxRecDepth 100000 in
theorem only4_calls (t : Ty) (cs : List Value) (h : S w0 w R) (hK : kTy.K w0 t cs) (ho : oTy t) :
  Calls Tryz.prog 83 #[.agg cs.toArray,.bool false,.bool false,.bool true,.bool false,.bool false,.bool true,.bool false] w fun e w' => e = .returned (.bool (onlyB false false true false false true false t)) ∧ S w0 w' R := by
 obtain ⟨A7,c7,A10,c10,A11,c11,A12,c12,A13,c13,A14,c14,rfl, -⟩ := kTy_open hK
 show Calls Tryz.prog 83 #[.agg #[.int .i64 t.k,.string t.n,.int .i64 t.c.f0,.int .i64 t.c.f1,.int .i64 t.c.f2,.bool t.c.f3,.bool t.c.f4,.slice A7 t.c.f5.length c7,.bool t.e,.string t.fr,.slice A10 t.ns.length c10,.slice A11 t.mo.length c11,.slice A12 t.ps.length c12,.slice A13 t.ad.length c13,.slice A14 t.el.length c14],.bool false,.bool false,.bool true,.bool false,.bool false,.bool true,.bool false] w _
 obtain ⟨-, -, -, -,⟨o1, -⟩,⟨o2, -⟩,⟨o3, -⟩,⟨o4, -⟩,o5, -⟩ := ho 1
 unfold oL M at o1 o2 o3 o4 o5
 have w1 : IntKind.i64.wrap ((t.ns.length : Int) + (t.mo.length : Int)) = (t.ns.length : Int) + t.mo.length := IntWalk.i64_in _ (by omega)
 have w2 : IntKind.i64.wrap ((t.ps.length : Int) + (t.ad.length : Int)) = (t.ps.length : Int) + t.ad.length := IntWalk.i64_in _ (by omega)
 have H := Lib.hid (h.alloc (.cells #[.int .i64 t.k,.string t.n,.int .i64 t.c.f0,.int .i64 t.c.f1,.int .i64 t.c.f2,.bool t.c.f3,.bool t.c.f4,.slice A7 t.c.f5.length c7,.bool t.e,.string t.fr,.slice A10 t.ns.length c10,.slice A11 t.mo.length c11,.slice A12 t.ps.length c12,.slice A13 t.ad.length c13,.slice A14 t.el.length c14] 38))
 obtain ⟨d0,d1,d2,d3,d4,d5,d6,d7,d8,d9,d10,d11,d12,d13,d14⟩ := ty_cells H.out
 have HE : Hid (onlyB false false true false false true false t = ((t.n.toList == ([] : List UInt8)) && (t.c.f0 == 0) && (t.fr.toList == ([] : List UInt8)) && ((t.ns.length : Int) + (t.mo.length : Int) == 0) && ((t.el.length : Int) == 0))) := Lib.hid (by unfold onlyB noS; simp only [Bool.true_or,Bool.false_or,Bool.and_true])
 clear h hK ho o1 o2 o3 o4 o5
 go_enter Tryz.func83,Tryz.ntmps83
 go_upto_region 1 with fail
 simp only [List.append_eq,List.cons_append,List.nil_append]
 generalize w.alloc (.cells #[.int .i64 t.k,.string t.n,.int .i64 t.c.f0,.int .i64 t.c.f1,.int .i64 t.c.f2,.bool t.c.f3,.bool t.c.f4,.slice A7 t.c.f5.length c7,.bool t.e,.string t.fr,.slice A10 t.ns.length c10,.slice A11 t.mo.length c11,.slice A12 t.ps.length c12,.slice A13 t.ad.length c13,.slice A14 t.el.length c14] 38) = wx at *
 rcases cascf5 (t.n.toList == ([] : List UInt8)) (t.c.f0 == 0) (t.fr.toList == ([] : List UInt8)) ((t.ns.length : Int) + (t.mo.length : Int) == 0) ((t.el.length : Int) == 0) with q0 | ⟨q0,q1 | ⟨q1,q2 | ⟨q2,q3 | ⟨q3,q4 | q4⟩⟩⟩⟩
 all_goals
  go_wp2
  go_ret
  exact ⟨by rw [HE.out]; first | (rw [q0,q1,q2,q3,q4]; rfl) | (rw [q0,q1,q2,q3]; rfl) | (rw [q0,q1,q2]; rfl) | (rw [q0,q1]; rfl) | (rw [q0]; rfl),H.out.drop⟩
set_option maxHeartbeats 16000000 in
set_option maxRecDepth 100000 in
theorem only5_calls (t : Ty) (cs : List Value) (h : S w0 w R) (hK : kTy.K w0 t cs) (ho : oTy t) :
  Calls Tryz.prog 83 #[.agg cs.toArray,.bool false,.bool true,.bool true,.bool false,.bool false,.bool false,.bool true] w fun e w' => e = .returned (.bool (onlyB false true true false false false true t)) ∧ S w0 w' R := by
 obtain ⟨A7,c7,A10,c10,A11,c11,A12,c12,A13,c13,A14,c14,rfl, -⟩ := kTy_open hK
 show Calls Tryz.prog 83 #[.agg #[.int .i64 t.k,.string t.n,.int .i64 t.c.f0,.int .i64 t.c.f1,.int .i64 t.c.f2,.bool t.c.f3,.bool t.c.f4,.slice A7 t.c.f5.length c7,.bool t.e,.string t.fr,.slice A10 t.ns.length c10,.slice A11 t.mo.length c11,.slice A12 t.ps.length c12,.slice A13 t.ad.length c13,.slice A14 t.el.length c14],.bool false,.bool true,.bool true,.bool false,.bool false,.bool false,.bool true] w _
 obtain ⟨-, -, -, -,⟨o1, -⟩,⟨o2, -⟩,⟨o3, -⟩,⟨o4, -⟩,o5, -⟩ := ho 1
 unfold oL M at o1 o2 o3 o4 o5
 have w1 : IntKind.i64.wrap ((t.ns.length : Int) + (t.mo.length : Int)) = (t.ns.length : Int) + t.mo.length := IntWalk.i64_in _ (by omega)
 have w2 : IntKind.i64.wrap ((t.ps.length : Int) + (t.ad.length : Int)) = (t.ps.length : Int) + t.ad.length := IntWalk.i64_in _ (by omega)
 have H := Lib.hid (h.alloc (.cells #[.int .i64 t.k,.string t.n,.int .i64 t.c.f0,.int .i64 t.c.f1,.int .i64 t.c.f2,.bool t.c.f3,.bool t.c.f4,.slice A7 t.c.f5.length c7,.bool t.e,.string t.fr,.slice A10 t.ns.length c10,.slice A11 t.mo.length c11,.slice A12 t.ps.length c12,.slice A13 t.ad.length c13,.slice A14 t.el.length c14] 38))
 obtain ⟨d0,d1,d2,d3,d4,d5,d6,d7,d8,d9,d10,d11,d12,d13,d14⟩ := ty_cells H.out
 have HE : Hid (onlyB false true true false false false true t = ((t.n.toList == ([] : List UInt8)) && (t.fr.toList == ([] : List UInt8)) && ((t.ns.length : Int) + (t.mo.length : Int) == 0) && ((t.ps.length : Int) + (t.ad.length : Int) == 0))) := Lib.hid (by unfold onlyB noS; simp only [Bool.true_or,Bool.false_or,Bool.and_true])
 clear h hK ho o1 o2 o3 o4 o5
 go_enter Tryz.func83,Tryz.ntmps83
 go_upto_region 1 with fail
 simp only [List.append_eq,List.cons_append,List.nil_append]
 generalize w.alloc (.cells #[.int .i64 t.k,.string t.n,.int .i64 t.c.f0,.int .i64 t.c.f1,.int .i64 t.c.f2,.bool t.c.f3,.bool t.c.f4,.slice A7 t.c.f5.length c7,.bool t.e,.string t.fr,.slice A10 t.ns.length c10,.slice A11 t.mo.length c11,.slice A12 t.ps.length c12,.slice A13 t.ad.length c13,.slice A14 t.el.length c14] 38) = wx at *
 rcases cascf4 (t.n.toList == ([] : List UInt8)) (t.fr.toList == ([] : List UInt8)) ((t.ns.length : Int) + (t.mo.length : Int) == 0) ((t.ps.length : Int) + (t.ad.length : Int) == 0) with q0 | ⟨q0,q1 | ⟨q1,q2 | ⟨q2,q3 | q3⟩⟩⟩
 all_goals
  go_wp2
  go_ret
  exact ⟨by rw [HE.out]; first | (rw [q0,q1,q2,q3]; rfl) | (rw [q0,q1,q2]; rfl) | (rw [q0,q1]; rfl) | (rw [q0]; rfl),H.out.drop⟩
set_option maxHeartbeats 16000000 in
set_option maxRecDepth 100000 in
theorem only6_calls (t : Ty) (cs : List Value) (h : S w0 w R) (hK : kTy.K w0 t cs) (ho : oTy t) :
  Calls Tryz.prog 83 #[.agg cs.toArray,.bool true,.bool false,.bool false,.bool false,.bool false,.bool false,.bool false] w fun e w' => e = .returned (.bool (onlyB true false false false false false false t)) ∧ S w0 w' R := by
 obtain ⟨A7,c7,A10,c10,A11,c11,A12,c12,A13,c13,A14,c14,rfl, -⟩ := kTy_open hK
 show Calls Tryz.prog 83 #[.agg #[.int .i64 t.k,.string t.n,.int .i64 t.c.f0,.int .i64 t.c.f1,.int .i64 t.c.f2,.bool t.c.f3,.bool t.c.f4,.slice A7 t.c.f5.length c7,.bool t.e,.string t.fr,.slice A10 t.ns.length c10,.slice A11 t.mo.length c11,.slice A12 t.ps.length c12,.slice A13 t.ad.length c13,.slice A14 t.el.length c14],.bool true,.bool false,.bool false,.bool false,.bool false,.bool false,.bool false] w _
 obtain ⟨-, -, -, -,⟨o1, -⟩,⟨o2, -⟩,⟨o3, -⟩,⟨o4, -⟩,o5, -⟩ := ho 1
 unfold oL M at o1 o2 o3 o4 o5
 have w1 : IntKind.i64.wrap ((t.ns.length : Int) + (t.mo.length : Int)) = (t.ns.length : Int) + t.mo.length := IntWalk.i64_in _ (by omega)
 have w2 : IntKind.i64.wrap ((t.ps.length : Int) + (t.ad.length : Int)) = (t.ps.length : Int) + t.ad.length := IntWalk.i64_in _ (by omega)
 have H := Lib.hid (h.alloc (.cells #[.int .i64 t.k,.string t.n,.int .i64 t.c.f0,.int .i64 t.c.f1,.int .i64 t.c.f2,.bool t.c.f3,.bool t.c.f4,.slice A7 t.c.f5.length c7,.bool t.e,.string t.fr,.slice A10 t.ns.length c10,.slice A11 t.mo.length c11,.slice A12 t.ps.length c12,.slice A13 t.ad.length c13,.slice A14 t.el.length c14] 38))
 obtain ⟨d0,d1,d2,d3,d4,d5,d6,d7,d8,d9,d10,d11,d12,d13,d14⟩ := ty_cells H.out
 have HE : Hid (onlyB true false false false false false false t = ((t.c.f0 == 0) && !t.e && (t.fr.toList == ([] : List UInt8)) && ((t.ns.length : Int) + (t.mo.length : Int) == 0) && ((t.ps.length : Int) + (t.ad.length : Int) == 0) && ((t.el.length : Int) == 0))) := Lib.hid (by unfold onlyB noS; simp only [Bool.true_or,Bool.false_or,Bool.true_and])
 clear h hK ho o1 o2 o3 o4 o5
 go_enter Tryz.func83,Tryz.ntmps83
 go_upto_region 1 with fail
 simp only [List.append_eq,List.cons_append,List.nil_append]
 generalize w.alloc (.cells #[.int .i64 t.k,.string t.n,.int .i64 t.c.f0,.int .i64 t.c.f1,.int .i64 t.c.f2,.bool t.c.f3,.bool t.c.f4,.slice A7 t.c.f5.length c7,.bool t.e,.string t.fr,.slice A10 t.ns.length c10,.slice A11 t.mo.length c11,.slice A12 t.ps.length c12,.slice A13 t.ad.length c13,.slice A14 t.el.length c14] 38) = wx at *
 rcases cascf6 (t.c.f0 == 0) (!t.e) (t.fr.toList == ([] : List UInt8)) ((t.ns.length : Int) + (t.mo.length : Int) == 0) ((t.ps.length : Int) + (t.ad.length : Int) == 0) ((t.el.length : Int) == 0) with q0 | ⟨q0,q1 | ⟨q1,q2 | ⟨q2,q3 | ⟨q3,q4 | ⟨q4,q5 | q5⟩⟩⟩⟩⟩
 all_goals
  try (first | rw [Bool.not_eq_true'] at q1 | rw [Bool.not_eq_false'] at q1)
  go_wp2
  go_ret
  exact ⟨by rw [HE.out]; first | (rw [q0,q1,q2,q3,q4,q5]; rfl) | (rw [q0,q1,q2,q3,q4]; rfl) | (rw [q0,q1,q2,q3]; rfl) | (rw [q0,q1,q2]; rfl) | (rw [q0,q1]; rfl) | (rw [q0]; rfl),H.out.drop⟩
set_option maxHeartbeats 16000000 in
set_option maxRecDepth 100000 in
theorem rsized_calls (t : Ty) (cs : List Value) (h : S w0 w R) (hK : kTy.K w0 t cs) :
  Calls Tryz.prog 84 #[.agg cs.toArray] w fun e w' => e = .returned (.bool (conB 40 t.c && !(t.e && (t.c.f0 == 0)))) ∧ S w0 w' R := by
 obtain ⟨A7,c7,A10,c10,A11,c11,A12,c12,A13,c13,A14,c14,rfl, -,g7, -⟩ := kTy_open hK
 show Calls Tryz.prog 84 #[.agg #[.int .i64 t.k,.string t.n,.int .i64 t.c.f0,.int .i64 t.c.f1,.int .i64 t.c.f2,.bool t.c.f3,.bool t.c.f4,.slice A7 t.c.f5.length c7,.bool t.e,.string t.fr,.slice A10 t.ns.length c10,.slice A11 t.mo.length c11,.slice A12 t.ps.length c12,.slice A13 t.ad.length c13,.slice A14 t.el.length c14]] w _
 have H := Lib.hid (h.alloc (.cells #[.int .i64 t.k,.string t.n,.int .i64 t.c.f0,.int .i64 t.c.f1,.int .i64 t.c.f2,.bool t.c.f3,.bool t.c.f4,.slice A7 t.c.f5.length c7,.bool t.e,.string t.fr,.slice A10 t.ns.length c10,.slice A11 t.mo.length c11,.slice A12 t.ps.length c12,.slice A13 t.ad.length c13,.slice A14 t.el.length c14] 38))
 have HC := Lib.hid (rcon40_calls t.c A7 c7 H.out g7)
 obtain ⟨d0,d1,d2,d3,d4,d5,d6,d7,d8,d9,d10,d11,d12,d13,d14⟩ := ty_cells H.out
 clear h hK
 go_enter Tryz.func84,Tryz.ntmps84
 go_upto_region 1 with fail
 generalize w.alloc (.cells #[.int .i64 t.k,.string t.n,.int .i64 t.c.f0,.int .i64 t.c.f1,.int .i64 t.c.f2,.bool t.c.f3,.bool t.c.f4,.slice A7 t.c.f5.length c7,.bool t.e,.string t.fr,.slice A10 t.ns.length c10,.slice A11 t.mo.length c11,.slice A12 t.ps.length c12,.slice A13 t.ad.length c13,.slice A14 t.el.length c14] 38) = wx at *
 cases q0 : conB 40 t.c <;> rw [q0] at HC
 ·go_wp2_with fail
  refine HC.out.mono ?_
  rintro e w2 ⟨rfl,h2⟩
  have H2 := Lib.hid h2
  clear h2 HC
  go_wp2
  go_ret
  exact ⟨by rw [q0]; rfl,H2.out.drop⟩
 ·go_wp2_with fail
  refine HC.out.mono ?_
  rintro e w2 ⟨rfl,h2⟩
  have H2 := Lib.hid h2
  clear h2 HC d0 d1 d2 d3 d4 d5 d6 d7 d8 d9 d10 d11 d12 d13 d14
  obtain ⟨d0,d1,d2,d3,d4,d5,d6,d7,d8,d9,d10,d11,d12,d13,d14⟩ := ty_cells H2.out
  cases q1 : t.e <;> cases q2 : (t.c.f0 == 0)
  all_goals
   go_wp2
   go_ret
   exact ⟨by rw [q0,q1,q2]; rfl,H2.out.drop⟩
end Go.Proofs.YtbjddomocggjmaaGreat.Sc
end
