/- Module of the reference of layer 8: walked. -/
import Derived.Test.YtbjddomocggjmaaJAh
import Derived.Test.YtbjddomocggjmaaJAu
namespace Go.Proofs.Ytbjddomocggjmaa.Sc
open Go.RowKit Go.ChangeShapes Go.WideShapes Go.Proofs.Ytbjddomocggjmaa.Sep
open Go.Proofs.YtbjddomocggjmaaW.PrintWords
variable {B : Nat} {w0 w : World} {R : HP}
section
variable {m : Md}
theorem md_n (h : nameB m.n = false) : mdB m = false := by unfold mdB; rw [h]; rfl
theorem md_il (h : 256 < m.im.length) : mdB m = false := by unfold mdB; rw [decide_eq_true h]; simp
theorem md_dl (h : 256 < m.df.length) : mdB m = false := by unfold mdB; rw [decide_eq_true h]; simp
theorem md_im (h : m.im.all imB = false) : mdB m = false := by unfold mdB; rw [h]; simp
theorem md_df (h : m.df.all dfB = false) : mdB m = false := by unfold mdB; rw [h]; simp
theorem md_all (h0 : nameB m.n = true) (h1 : ¬ 256 < m.im.length) (h2 : ¬ 256 < m.df.length) (h3 : m.im.all imB = true) (h4 : m.df.all dfB = true) : mdB m = true := by
  unfold mdB
  rw [h0, decide_eq_false h1, decide_eq_false h2, h3, h4]
  rfl
end
section
variable {x : Im}
theorem im_f (h : nameB x.f1 = false) : imB x = false := by unfold imB; rw [h]; rfl
theorem im_z (h : x.f0.length = 0) : imB x = false := by unfold imB; rw [decide_eq_true h]; simp
theorem im_l (h : 256 < x.f0.length) : imB x = false := by unfold imB; rw [decide_eq_true h]; simp
theorem im_n (h : x.f0.all nameB = false) : imB x = false := by unfold imB; rw [h]; simp
theorem im_all (h0 : nameB x.f1 = true) (h1 : x.f0.length ≠ 0) (h2 : ¬ 256 < x.f0.length) (h3 : x.f0.all nameB = true) : imB x = true := by
  unfold imB
  rw [h0, decide_eq_false h1, decide_eq_false h2, h3]
  rfl
end
set_option maxHeartbeats 16000000 in
set_option maxRecDepth 100000 in
theorem rmod_calls (m : Md) (cs : List Value) (h : S w0 w R) (hK : kMd.K w0 m cs) (ho : oMd m) :
    Calls Try.prog 27 #[.agg cs.toArray] w fun e w' => e = .returned (.bool (mdB m)) ∧ S w0 w' R := by
  obtain ⟨A2, c2, A3, c3, rfl, -, g2, -, g3⟩ := kMd_open hK
  have H := Lib.hid (h.alloc (.cells #[.string m.n, .bool m.au, .slice A2 m.im.length c2, .slice A3 m.df.length c3] 47))
  have HC := Lib.hid (And.intro g2 (And.intro g3 ho))
  have hl2 : m.im.length ≤ 9223372036854775807 := g2.2.1
  have hl3 : m.df.length ≤ 9223372036854775807 := g3.2.1
  have b0 := H.out.cell 0 rfl
  have b2 := H.out.cell 2 rfl
  have b3 := H.out.cell 3 rfl
  clear h hK ho g2 g3
  show Calls Try.prog 27 #[.agg #[.string m.n, .bool m.au, .slice A2 m.im.length c2, .slice A3 m.df.length c3]] w _
  go_enter Try.func27, Try.ntmps27
  go_wp2_with fail
  refine (rname_calls m.n H.out HC.out.2.2.1).mono ?_
  rintro e w1 ⟨rfl, h1⟩
  have H1 := Lib.hid h1
  generalize w.heap.size = g at *
  have b2 := h1.cell 2 rfl
  have b3 := h1.cell 3 rfl
  clear h1 H
  cases hn : nameB m.n with
  | false =>
    have HZ := Lib.hid (md_n hn)
    go_wp2
    go_ret
    exact ⟨by rw [HZ.out]; rfl, H1.out.drop⟩
  | true =>
    by_cases q2 : 256 < m.im.length
    · have HZ := Lib.hid (md_il q2)
      have p2 := eq_true (show (256 : Int) < m.im.length by omega)
      clear q2
      go_wp2
      go_ret
      exact ⟨by rw [HZ.out]; rfl, H1.out.drop⟩
    have p2 := eq_false (show ¬ (256 : Int) < m.im.length by omega)
    by_cases q3 : 256 < m.df.length
    · have HZ := Lib.hid (md_dl q3)
      have p3 := eq_true (show (256 : Int) < m.df.length by omega)
      clear q2 q3
      go_wp2
      go_ret
      exact ⟨by rw [HZ.out]; rfl, H1.out.drop⟩
    have p3 := eq_false (show ¬ (256 : Int) < m.df.length by omega)
    have HQ := Lib.hid (And.intro hn (And.intro q2 q3))
    clear hn q2 q3
    go_wp2
    clear p2 p3 b0 b2 b3
    go_loopw [3] (fun v wr => ∃ x : Int, 0 ≤ x ∧ x ≤ m.im.length ∧ v = .int .i64 x ∧ Hid (S w0 wr (Blk g (.cells #[.string m.n, .bool m.au, .slice A2 m.im.length c2, .slice A3 m.df.length c3] 47) • R)) ∧ Hid (∀ y ∈ m.im.take x.toNat, imB y = true)) (fun v _ => m.im.length - (intOf v).toNat)
    case atStart => exact ⟨0, Int.le_refl _, by omega, rfl, H1, Lib.hid (by simp)⟩
    case round =>
      clear H1
      obtain ⟨x, hx0, hx1, rfl, HR, HT⟩ := hrel
      have b2 := HR.out.cell 2 rfl
      by_cases hlt : x < m.im.length
      · obtain ⟨ad, cs, eA, hcl0, hK, hcell0⟩ := Kd.C_get HC.out.1 zIm x hx0 hlt
        cases eA
        have hcell : ∀ (j : Nat) (u : Value), cs[j]? = some u → w0.cell? (ad.add (x.toNat * 2 + j)) = some u := hcell0
        have HG := Lib.hid (getD_mem m.im zIm x hx0 hlt)
        generalize m.im.getD x.toNat zIm = r at *
        obtain ⟨A0, c0, rfl, -, g0⟩ := PScopeTwice.k69_open (show kIm.K w0 r cs from hK)
        have HO := Lib.hid (And.intro g0 (HC.out.2.2.2.1.2 r (List.mem_of_getElem? HG.out)))
        have hl0 : r.f0.length ≤ 9223372036854775807 := g0.2.1
        have e0 : wr.cell? (ad.add (x.toNat * 2)) = some (.slice A0 r.f0.length c0) := pw_cell_below HR.out.below (hcell 0 _ rfl)
        have e1 : wr.cell? ⟨(ad.add (x.toNat * 2)).block, (ad.add (x.toNat * 2)).off + 1, none⟩ = some (.string r.f1) := by
          have := pw_cell_below HR.out.below (hcell 1 _ rfl)
          rwa [add_field ad _ _ (by omega)] at this
        have p126 := eq_true hx0
        have q126 : (x < (m.im.length : Int)) = True := eq_true hlt
        clear hcell hcell0 hcl0 hK g0
        go_wp2_with fail
        refine (rname_calls r.f1 HR.out HO.out.2.2.2).mono ?_
        rintro e w2 ⟨rfl, h2⟩
        have H2 := Lib.hid h2
        clear h2 HR e0 e1 b2
        cases hn : nameB r.f1 with
        | false =>
          have HZ := Lib.hid (md_im (all_bad HG.out (im_f hn)))
          go_wp2
          go_ret
          exact ⟨by rw [HZ.out]; rfl, H2.out.drop⟩
        | true =>
          by_cases z0 : r.f0.length = 0
          · have HZ := Lib.hid (md_im (all_bad HG.out (im_z z0)))
            have y0 : ((r.f0.length : Int) == 0) = true := beq_iff_eq.2 (by omega)
            clear z0
            go_wp2
            go_ret
            exact ⟨by rw [HZ.out]; rfl, H2.out.drop⟩
          have y0 : ((r.f0.length : Int) == 0) = false := beq_eq_false_iff_ne.2 (by omega)
          by_cases z1 : 256 < r.f0.length
          · have HZ := Lib.hid (md_im (all_bad HG.out (im_l z1)))
            have y1 := eq_true (show (256 : Int) < r.f0.length by omega)
            clear z0 z1
            go_wp2
            go_ret
            exact ⟨by rw [HZ.out]; rfl, H2.out.drop⟩
          have y1 := eq_false (show ¬ (256 : Int) < r.f0.length by omega)
          have HX := Lib.hid (And.intro hn (And.intro z0 z1))
          clear hn z0 z1
          go_wp2
          clear y0 y1
          go_loopw [5] (fun v wr => ∃ z : Int, 0 ≤ z ∧ z ≤ r.f0.length ∧ v = .int .i64 z ∧ Hid (S w0 wr (Blk g (.cells #[.string m.n, .bool m.au, .slice (some ad) m.im.length c2, .slice A3 m.df.length c3] 47) • R)) ∧ Hid (∀ s ∈ r.f0.take z.toNat, nameB s = true)) (fun v _ => r.f0.length - (intOf v).toNat)
          case atStart => exact ⟨0, Int.le_refl _, by omega, rfl, H2, Lib.hid (by simp)⟩
          case round =>
            clear H2
            obtain ⟨z, hz0, hz1, rfl, HS, HU⟩ := hrel
            by_cases hlz : z < r.f0.length
            · obtain ⟨ad5, cs5, eA5, hcl5, hK5, hcell5⟩ := Kd.C_get HO.out.1 (⟨#[]⟩ : ByteArray) z hz0 hlz
              cases eA5
              have HGs := Lib.hid (getD_mem r.f0 (⟨#[]⟩ : ByteArray) z hz0 hlz)
              obtain rfl : cs5 = [.string (r.f0.getD z.toNat (⟨#[]⟩ : ByteArray))] := hK5
              generalize r.f0.getD z.toNat (⟨#[]⟩ : ByteArray) = s at *
              have d0 := pw_cell_below HS.out.below (hcell5 0 _ rfl)
              have d0 : wr.cell? (ad5.add z.toNat) = some (.string s) := by
                rw [show z.toNat * Kd.string.sz + 0 = z.toNat by show z.toNat * 1 + 0 = z.toNat; omega] at d0
                exact d0
              have p127 := eq_true hz0
              have q127 : (z < (r.f0.length : Int)) = True := eq_true hlz
              clear hcell5 hcl5
              go_wp2_with fail
              refine (rname_calls s HS.out (HO.out.2.2.1 s (List.mem_of_getElem? HGs.out))).mono ?_
              rintro e w5 ⟨rfl, h5⟩
              have H5 := Lib.hid h5
              clear h5 HS d0
              cases hq : nameB s with
              | false =>
                have HZ := Lib.hid (md_im (all_bad HG.out (im_n (all_bad HGs.out hq))))
                go_wp2
                go_ret
                exact ⟨by rw [HZ.out]; rfl, H5.out.drop⟩
              | true =>
                have HU2 := Lib.hid (all_next (p := nameB) hz0 HU.out HGs.out hq)
                go_wp2
                exact ⟨⟨z + 1, by omega, by omega, by go_num, H5, HU2⟩, by simp only [intOf]; omega⟩
            · have hlt' : (z < (r.f0.length : Int)) = False := eq_false hlz
              have HT2 := Lib.hid (all_next (p := imB) hx0 HT.out HG.out (im_all HX.out.1 HX.out.2.1 HX.out.2.2 (all_take HU.out (by omega))))
              go_wp2
              exact ⟨⟨x + 1, by omega, by omega, by go_num, HS, HT2⟩, by simp only [intOf]; omega⟩
      · have hlt' : (x < (m.im.length : Int)) = False := eq_false hlt
        have HW := Lib.hid (all_take HT.out (by omega))
        clear HT
        go_wp2
        clear b2
        go_loopw [6] (fun v wr => ∃ y : Int, 0 ≤ y ∧ y ≤ m.df.length ∧ v = .int .i64 y ∧ Hid (S w0 wr (Blk g (.cells #[.string m.n, .bool m.au, .slice A2 m.im.length c2, .slice A3 m.df.length c3] 47) • R)) ∧ Hid (∀ d ∈ m.df.take y.toNat, dfB d = true)) (fun v _ => m.df.length - (intOf v).toNat)
        case atStart => exact ⟨0, Int.le_refl _, by omega, rfl, HR, Lib.hid (by simp)⟩
        case round =>
          clear HR
          obtain ⟨y, hy0, hy1, rfl, HR, HT⟩ := hrel
          have b3 := HR.out.cell 3 rfl
          by_cases hly : y < m.df.length
          · obtain ⟨ad3, cs, eA, hcl0, hK, hcell0⟩ := Kd.C_get HC.out.2.1 zDf y hy0 hly
            cases eA
            have hcell : ∀ (j : Nat) (u : Value), cs[j]? = some u → w0.cell? (ad3.add (y.toNat * 16 + j)) = some u := hcell0
            have HG := Lib.hid (getD_mem m.df zDf y hy0 hly)
            generalize m.df.getD y.toNat zDf = d at *
            obtain ⟨ts, hD⟩ := df_cells (show kDf.K w0 d cs from hK)
            have hod := HC.out.2.2.2.2.2 d (List.mem_of_getElem? HG.out)
            have e0 : wr.cell? (ad3.add (y.toNat * 16)) = some (.string d.n) := pw_cell_below HR.out.below (hcell 0 _ hD.n)
            have HD2 := Lib.hid (And.intro hD hod)
            have HCt : Hid (∀ (W : World), Below w0.heap.size w0 W → ∀ (j : Nat) (v : Value), ts[j]? = some v → W.cell? ⟨(ad3.add (y.toNat * 16)).block, (ad3.add (y.toNat * 16)).off + 1 + j, none⟩ = some v) := Lib.hid fun W hW j v hv => by
              have := pw_cell_below hW (hcell (1 + j) v (HD2.out.1.typ j v hv))
              rwa [add_field ad3 _ _ (by omega), ← Nat.add_assoc] at this
            have p127 := eq_true hy0
            have q127 : (y < (m.df.length : Int)) = True := eq_true hly
            clear hcell hcell0 hcl0 hK hD hod
            go_wp2_with fail
            refine (rname_calls d.n HR.out HD2.out.2.1).mono ?_
            rintro e w2 ⟨rfl, h2⟩
            have H2 := Lib.hid h2
            have b3 := h2.cell 3 rfl
            clear h2 HR e0
            cases hn : nameB d.n with
            | false =>
              have HZ := Lib.hid (md_df (all_bad HG.out (show dfB d = false by unfold dfB; rw [hn]; rfl)))
              go_wp2
              go_ret
              exact ⟨by rw [HZ.out]; rfl, H2.out.drop⟩
            | true =>
              have HN := Lib.hid hn
              clear hn
              go_wp2_with (refine held_load 55 _ rfl ?_)
              refine ⟨?_⟩
              refine wpList_load_cells_w (by rfl) 55 _ rfl _ rfl ts (fun j v hv => by rw [WideShapes.add_plain]; exact HCt.out _ H2.out.below j v hv) _ Try.underlying55 rfl (by rw [HD2.out.1.tlen]; kernel_rfl) ?_
              go_wp2_with fail
              refine (rtype_calls d.t ts H2.out HD2.out.1.kt HD2.out.2.2).mono ?_
              rintro e w3 ⟨rfl, h3⟩
              have H3 := Lib.hid h3
              clear h3 H2 b3
              cases hs : shapedB 40 d.t with
              | false =>
                have HZ := Lib.hid (md_df (all_bad HG.out (show dfB d = false by unfold dfB; rw [hs, Bool.and_false])))
                go_wp2
                go_ret
                exact ⟨by rw [HZ.out]; rfl, H3.out.drop⟩
              | true =>
                have HT2 := Lib.hid (all_next (p := dfB) hy0 HT.out HG.out (show dfB d = true by unfold dfB; rw [HN.out, hs]; rfl))
                go_wp2
                exact ⟨⟨y + 1, by omega, by omega, by go_num, H3, HT2⟩, by simp only [intOf]; omega⟩
          · have hlt'' : (y < (m.df.length : Int)) = False := eq_false hly
            have HZ := Lib.hid (md_all HQ.out.1 HQ.out.2.1 HQ.out.2.2 HW.out (all_take HT.out (by omega)))
            go_wp2
            go_ret
            exact ⟨by rw [HZ.out]; rfl, HR.out.drop⟩
end Go.Proofs.Ytbjddomocggjmaa.Sc
