/- shape.Module: walked. -/
import Derived.Test.YtbjddomocggjmaaKZ
namespace Go.Proofs.Ytbjddomocggjmaa.Sc
open Go.RowKit Go.ChangeShapes Go.WideShapes Go.Proofs.Ytbjddomocggjmaa.Sep
open Go.Proofs.YtbjddomocggjmaaW.PrintWords
variable {B : Nat} {w0 w : World} {R : HP}
def imB (x : Im) : Bool := nameB x.f1 && !decide (x.f0.length = 0) && !decide (256 < x.f0.length) && x.f0.all nameB
def dfB (d : Df) : Bool := nameB d.n && shapedB 40 d.t
def mdB (m : Md) : Bool := nameB m.n && !decide (256 < m.im.length) && !decide (256 < m.df.length) && (m.im.all imB && m.df.all dfB)
theorem bad_name_tells (l : List ByteArray) (ho : ∀ s ∈ l, oS s) : TellsS w0 R 72 #[] l (fun s => !nameB s) := by
  intro W s h hs
  have hl := name_calls s h (ho s hs)
  clear h
  show Calls Try.prog 72 #[.string s] W _
  go_enter Try.func72, Try.ntmps72
  go_wp2_with fail
  refine hl.mono ?_
  rintro e w1 ⟨rfl, h1⟩
  have H1 := Lib.hid h1
  clear h1
  go_wp2
  go_ret
  exact ⟨rfl, H1.out⟩
set_option maxHeartbeats 4000000 in
set_option maxRecDepth 100000 in
theorem bad_def_tells (l : List Df) (ho : ∀ d ∈ l, oDf d) : Tells kDf w0 R 74 #[] l (fun d => !dfB d) := by
  intro W d h hd cs hK
  obtain ⟨ts, rfl, hT⟩ := kDf_open hK
  have HN := Lib.hid (fun (W : World) (Q : HP) (h : S w0 W Q) => name_calls d.n h (ho d hd).1)
  have HT := Lib.hid (fun (W : World) (Q : HP) (h : S w0 W Q) => type_calls d.t ts h hT (ho d hd).2)
  obtain ⟨A7, c7, A10, c10, A11, c11, A12, c12, A13, c13, A14, c14, rfl, -⟩ := kTy_open hT
  show Calls Try.prog 74 #[.agg #[.string d.n, .int .i64 d.t.k, .string d.t.n, .int .i64 d.t.c.f0, .int .i64 d.t.c.f1, .int .i64 d.t.c.f2, .bool d.t.c.f3, .bool d.t.c.f4, .slice A7 d.t.c.f5.length c7, .bool d.t.e, .string d.t.fr, .slice A10 d.t.ns.length c10, .slice A11 d.t.mo.length c11, .slice A12 d.t.ps.length c12, .slice A13 d.t.ad.length c13, .slice A14 d.t.el.length c14]] W fun e w' => e = .returned (.bool (!(nameB d.n && shapedB 40 d.t))) ∧ S w0 w' R
  have H := Lib.hid (h.alloc (.cells #[.string d.n, .int .i64 d.t.k, .string d.t.n, .int .i64 d.t.c.f0, .int .i64 d.t.c.f1, .int .i64 d.t.c.f2, .bool d.t.c.f3, .bool d.t.c.f4, .slice A7 d.t.c.f5.length c7, .bool d.t.e, .string d.t.fr, .slice A10 d.t.ns.length c10, .slice A11 d.t.mo.length c11, .slice A12 d.t.ps.length c12, .slice A13 d.t.ad.length c13, .slice A14 d.t.el.length c14] 59))
  have d0 := H.out.cell 0 rfl
  have d1 := H.out.cell 1 rfl
  have d2 := H.out.cell 2 rfl
  have d3 := H.out.cell 3 rfl
  have d4 := H.out.cell 4 rfl
  have d5 := H.out.cell 5 rfl
  have d6 := H.out.cell 6 rfl
  have d7 := H.out.cell 7 rfl
  have d8 := H.out.cell 8 rfl
  have d9 := H.out.cell 9 rfl
  have d10 := H.out.cell 10 rfl
  have d11 := H.out.cell 11 rfl
  have d12 := H.out.cell 12 rfl
  have d13 := H.out.cell 13 rfl
  have d14 := H.out.cell 14 rfl
  have d15 := H.out.cell 15 rfl
  clear h hK ho hd
  have HN2 := Lib.hid (HN.out _ _ H.out)
  generalize nameB d.n = q at *
  cases q with
  | false =>
    go_enter Try.func74, Try.ntmps74
    go_wp2_with fail
    refine HN2.out.mono ?_
    rintro e w2 ⟨rfl, h2⟩
    have H2 := Lib.hid h2
    clear h2
    go_wp2
    go_ret
    exact ⟨rfl, H2.out.drop⟩
  | true =>
    go_enter Try.func74, Try.ntmps74
    go_wp2_with fail
    refine HN2.out.mono ?_
    rintro e w2 ⟨rfl, h2⟩
    have H2 := Lib.hid h2
    replace d0 := H2.out.cell 0 rfl
    replace d1 := H2.out.cell 1 rfl
    replace d2 := H2.out.cell 2 rfl
    replace d3 := H2.out.cell 3 rfl
    replace d4 := H2.out.cell 4 rfl
    replace d5 := H2.out.cell 5 rfl
    replace d6 := H2.out.cell 6 rfl
    replace d7 := H2.out.cell 7 rfl
    replace d8 := H2.out.cell 8 rfl
    replace d9 := H2.out.cell 9 rfl
    replace d10 := H2.out.cell 10 rfl
    replace d11 := H2.out.cell 11 rfl
    replace d12 := H2.out.cell 12 rfl
    replace d13 := H2.out.cell 13 rfl
    replace d14 := H2.out.cell 14 rfl
    replace d15 := H2.out.cell 15 rfl
    clear h2
    go_wp2_with fail
    refine (HT.out _ _ H2.out).mono ?_
    rintro e w3 ⟨rfl, h3⟩
    have H3 := Lib.hid h3
    clear h3
    go_wp2
    go_ret
    exact ⟨rfl, H3.out.drop⟩
set_option maxHeartbeats 8000000 in
set_option maxRecDepth 100000 in
theorem module_calls (m : Md) (A2 : Option Addr) (c2 : Nat) (A3 : Option Addr) (c3 : Nat) (h : S w0 w R) (l2 : kIm.C w0 A2 m.im.length m.im) (l3 : kDf.C w0 A3 m.df.length m.df) (ho : oMd m) :
    Calls Try.prog 45 #[.agg #[.string m.n, .bool m.au, .slice A2 m.im.length c2, .slice A3 m.df.length c3]] w fun e w' => e = .returned (.bool (mdB m)) ∧ S w0 w' R := by
  have eg1 : ∀ args w, (callFunc 72 args).run Try.prog w = .ok (.enter 72 args) w := enters_of Try.func72 (by kernel_rfl) rfl
  have eg2 : ∀ args w, (callFunc 74 args).run Try.prog w = .ok (.enter 74 args) w := enters_of Try.func74 (by kernel_rfl) rfl
  have hl2 : m.im.length ≤ 9223372036854775807 := l2.2.1
  have hl3 : m.df.length ≤ 9223372036854775807 := l3.2.1
  have HN := Lib.hid (fun (W : World) (Q : HP) (h : S w0 W Q) => name_calls m.n h ho.1)
  have HM := Lib.hid (fun (W : World) (Q : HP) (s : ByteArray) (hs : oS s) (h : S w0 W Q) => name_calls s h hs)
  have HI := Lib.hid (And.intro l2 ho.2.1.2)
  have HS := Lib.hid (fun (W : World) (Q : HP) (A : Option Addr) (c : Nat) (l : List ByteArray) (hC : Kd.string.C w0 A l.length l) (h : S w0 W Q) (ho : ∀ s ∈ l, oS s) => contains_strs _ _ eg1 _ A c l hC h (bad_name_tells l ho))
  have HF := Lib.hid (fun (W : World) (Q : HP) (h : S w0 W Q) => contains_dfs _ _ eg2 _ A3 c3 m.df l3 h (bad_def_tells m.df ho.2.2.2))
  have H := Lib.hid (h.alloc (.cells #[.string m.n, .bool m.au, .slice A2 m.im.length c2, .slice A3 m.df.length c3] 47))
  have d0 := H.out.cell 0 rfl
  have d2 := H.out.cell 2 rfl
  have d3 := H.out.cell 3 rfl
  have HN2 := Lib.hid (HN.out _ _ H.out)
  unfold mdB
  rw [all_any dfB]
  clear h l2 l3 ho eg1 eg2
  generalize nameB m.n = q at *
  cases q with
  | false =>
    go_enter Try.func45, Try.ntmps45
    go_wp2_with fail
    refine HN2.out.mono ?_
    rintro e w2 ⟨rfl, h2⟩
    have H2 := Lib.hid h2
    clear h2
    go_wp2
    go_ret
    exact ⟨rfl, H2.out.drop⟩
  | true =>
  rw [Bool.true_and]
  by_cases q1 : 256 < m.im.length
  · have p1 : decide ((256 : Int) < (m.im.length : Int)) = true := decide_eq_true (by omega)
    rw [decide_eq_true q1]
    clear q1
    go_enter Try.func45, Try.ntmps45
    go_wp2_with fail
    refine HN2.out.mono ?_
    rintro e w2 ⟨rfl, h2⟩
    have H2 := Lib.hid h2
    replace d2 := H2.out.cell 2 rfl
    replace d3 := H2.out.cell 3 rfl
    clear h2
    go_wp2
    go_ret
    exact ⟨rfl, H2.out.drop⟩
  have p1 : decide ((256 : Int) < (m.im.length : Int)) = false := decide_eq_false (by omega)
  rw [decide_eq_false q1, Bool.not_false, Bool.true_and]
  clear q1
  by_cases q2 : 256 < m.df.length
  · have p2 : decide ((256 : Int) < (m.df.length : Int)) = true := decide_eq_true (by omega)
    rw [decide_eq_true q2]
    clear q2
    go_enter Try.func45, Try.ntmps45
    go_wp2_with fail
    refine HN2.out.mono ?_
    rintro e w2 ⟨rfl, h2⟩
    have H2 := Lib.hid h2
    replace d2 := H2.out.cell 2 rfl
    replace d3 := H2.out.cell 3 rfl
    clear h2
    go_wp2
    go_ret
    exact ⟨rfl, H2.out.drop⟩
  have p2 : decide ((256 : Int) < (m.df.length : Int)) = false := decide_eq_false (by omega)
  rw [decide_eq_false q2, Bool.not_false, Bool.true_and]
  clear q2
  go_enter Try.func45, Try.ntmps45
  go_wp2_with fail
  refine HN2.out.mono ?_
  rintro e w2 ⟨rfl, h2⟩
  have H2 := Lib.hid h2
  replace d2 := H2.out.cell 2 rfl
  replace d3 := H2.out.cell 3 rfl
  clear h2 H HN HN2 d0
  go_wp2
  go_loopw [24] (fun v wr => ∃ x : Int, 0 ≤ x ∧ x ≤ m.im.length ∧ v = .int .i64 x ∧ Hid (S w0 wr (Blk w.heap.size (.cells #[.string m.n, .bool m.au, .slice A2 m.im.length c2, .slice A3 m.df.length c3] 47) • R)) ∧ Hid (∀ y ∈ m.im.take x.toNat, imB y = true)) (fun v _ => m.im.length - (intOf v).toNat)
  case atStart => exact ⟨0, Int.le_refl _, by omega, rfl, H2, Lib.hid (by simp)⟩
  case round =>
    clear H2 d2 d3
    obtain ⟨x, hx0, hx1, rfl, HR, HT⟩ := hrel
    by_cases hlt : x < m.im.length
    · obtain ⟨ad, cs, rfl, hcl0, hK, hcell0⟩ := Kd.C_get HI.out.1 zIm x hx0 hlt
      have hcell : ∀ (j : Nat) (u : Value), cs[j]? = some u → w0.cell? (ad.add (x.toNat * 2 + j)) = some u := hcell0
      clear hcell0 hcl0
      have HG := Lib.hid (getD_mem m.im zIm x hx0 hlt)
      obtain ⟨A0, c0, rfl, -, hC0⟩ := PScopeTwice.k69_open (id hK)
      generalize m.im.getD x.toNat zIm = r at *
      have hor := HI.out.2 r (List.mem_of_getElem? HG.out)
      have HC := Lib.hid (And.intro hC0 hor)
      have hr1 : r.f0.length ≤ 140737488355328 := hor.1
      have e0 : wr.cell? (ad.add (x.toNat * 2)) = some (.slice A0 r.f0.length c0) := pw_cell_below HR.out.below (hcell 0 _ rfl)
      have e1 : wr.cell? ⟨(ad.add (x.toNat * 2)).block, (ad.add (x.toNat * 2)).off + 1, none⟩ = some (.string r.f1) := by rw [← add_field _ _ 1 (by omega)]; exact pw_cell_below HR.out.below (hcell 1 _ rfl)
      have H3 := Lib.hid (HR.out.alloc (.cells #[.slice A0 r.f0.length c0, .string r.f1] 69))
      have f0 := H3.out.cell 0 rfl
      have f1 := H3.out.cell 1 rfl
      have p126 := eq_true hx0
      have q126 : (x < (m.im.length : Int)) = True := eq_true hlt
      have HX : Hid (∀ b, imB r = b → b = true → ∀ y ∈ m.im.take (x + 1).toNat, imB y = true) := Lib.hid fun b hb hbt y hy => by
        have e1 : (x + 1).toNat = x.toNat + 1 := by omega
        rw [e1, List.take_add_one, HG.out] at hy
        rcases List.mem_append.1 hy with hy | hy
        · exact HT.out y hy
        · obtain rfl : y = r := by simpa using hy
          rw [hb, hbt]
      have HY : Hid (imB r = false → m.im.all imB = false) := Lib.hid fun hb => List.all_eq_false.2 ⟨r, List.mem_of_getElem? HG.out, by rw [hb]; simp⟩
      have HE : Hid (imB r = (nameB r.f1 && !decide (r.f0.length = 0) && !decide (256 < r.f0.length) && r.f0.all nameB)) := Lib.hid rfl
      have HN3 := Lib.hid (HM.out _ _ r.f1 HC.out.2.2.2 H3.out)
      clear hcell hK hC0 hor
      generalize imB r = ib at *
      generalize nameB r.f1 = q at *
      cases q with
      | false =>
        have HZ := Lib.hid (HY.out (by rw [HE.out]; rfl))
        go_wp2_with fail
        refine HN3.out.mono ?_
        rintro e w4 ⟨rfl, h4⟩
        have H4 := Lib.hid h4
        clear h4
        go_wp2
        go_ret
        exact ⟨by rw [HZ.out]; rfl, H4.out.drop.drop⟩
      | true =>
      by_cases q3 : r.f0.length = 0
      · have p3 : ((r.f0.length : Int) == 0) = true := beq_iff_eq.2 (by omega)
        have HZ := Lib.hid (HY.out (by rw [HE.out, decide_eq_true q3]; rfl))
        clear q3
        go_wp2_with fail
        refine HN3.out.mono ?_
        rintro e w4 ⟨rfl, h4⟩
        have H4 := Lib.hid h4
        replace f0 := H4.out.cell 0 rfl
        clear h4
        go_wp2
        go_ret
        exact ⟨by rw [HZ.out]; rfl, H4.out.drop.drop⟩
      have p3 : ((r.f0.length : Int) == 0) = false := beq_eq_false_iff_ne.2 (by omega)
      by_cases q4 : 256 < r.f0.length
      · have p4 : decide ((256 : Int) < (r.f0.length : Int)) = true := decide_eq_true (by omega)
        have HZ := Lib.hid (HY.out (by rw [HE.out, decide_eq_false q3, decide_eq_true q4]; rfl))
        clear q3 q4
        go_wp2_with fail
        refine HN3.out.mono ?_
        rintro e w4 ⟨rfl, h4⟩
        have H4 := Lib.hid h4
        replace f0 := H4.out.cell 0 rfl
        clear h4
        go_wp2
        go_ret
        exact ⟨by rw [HZ.out]; rfl, H4.out.drop.drop⟩
      have p4 : decide ((256 : Int) < (r.f0.length : Int)) = false := decide_eq_false (by omega)
      have HE2 : Hid (ib = !(r.f0.any fun s => !nameB s)) := Lib.hid (by rw [HE.out, decide_eq_false q3, decide_eq_false q4, all_any]; rfl)
      clear q3 q4 HE
      go_wp2_with fail
      refine HN3.out.mono ?_
      rintro e w4 ⟨rfl, h4⟩
      have H4 := Lib.hid h4
      replace f0 := H4.out.cell 0 rfl
      clear h4 HN3
      have HS2 := Lib.hid (HS.out _ _ A0 c0 r.f0 HC.out.1 H4.out HC.out.2.2.1)
      generalize (r.f0.any fun s => !nameB s) = q5 at *
      cases q5 with
      | true =>
        have HZ := Lib.hid (HY.out (by rw [HE2.out]; rfl))
        go_wp2_with fail
        refine HS2.out.mono ?_
        rintro e w5 ⟨rfl, h5⟩
        have H5 := Lib.hid h5
        clear h5
        go_wp2
        go_ret
        exact ⟨by rw [HZ.out]; rfl, H5.out.drop.drop⟩
      | false =>
        have HZ := Lib.hid (HX.out ib rfl (by rw [HE2.out]; rfl))
        go_wp2_with fail
        refine HS2.out.mono ?_
        rintro e w5 ⟨rfl, h5⟩
        have H5 := Lib.hid h5.drop
        clear h5 e0 e1 f0 f1
        go_wp2
        exact ⟨⟨x + 1, by omega, by omega, by go_num, H5, HZ⟩, by simp only [intOf]; omega⟩
    · have hlt' : (x < (m.im.length : Int)) = False := eq_false hlt
      have HZ : Hid (m.im.all imB = true) := Lib.hid (List.all_eq_true.2 fun y hy => HT.out y (by rw [List.take_of_length_le (by omega)]; exact hy))
      have d3 := HR.out.cell 3 rfl
      go_wp2_with fail
      refine (HF.out _ _ HR.out).mono ?_
      rintro e w5 ⟨rfl, h5⟩
      have H5 := Lib.hid h5
      clear h5
      go_wp2
      go_ret
      exact ⟨by rw [HZ.out]; rfl, H5.out.drop⟩
end Go.Proofs.Ytbjddomocggjmaa.Sc
