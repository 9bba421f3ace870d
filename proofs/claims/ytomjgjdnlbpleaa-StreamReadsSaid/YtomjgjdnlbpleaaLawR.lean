/- StreamReads: the walk of the law. -/
import Derived.Test.YtomjgjdnlbpleaaOps
import Derived.Test.YtomjgjdnlbpleaaRdD
namespace Go.Proofs.Ytomjgjdnlbpleaa.Stream
open Go.RowKit Go.Proofs.Ytomjgjdnlbpleaa.Sep Go.Proofs.Ytomjgjdnlbpleaa.Bits Go.Proofs.Ytomjgjdnlbpleaa.Num
variable {B : Nat} {w0 w : World} {R : HP}

set_option maxHeartbeats 4000000 in
set_option maxRecDepth 100000 in
theorem reads_calls (va vb : Value) (xs : List Int) (ops : List OpD) (w : World) (hxr : Reads8 w va xs) (hx : ∀ x ∈ xs, 0 ≤ x ∧ x < 256) (hr : ReadsOps w vb ops) (hok : ∀ o ∈ ops, OpOk o) :
    Calls Try.prog 12 #[va, vb] w fun e w' => e = .returned (.bool true) ∧ Below w.heap.size w w' := by
  have H := Lib.hid (St.start w)
  have HR := Lib.hid hr
  have HXR := Lib.hid hxr
  have HX := Lib.hid hx
  have HOK := Lib.hid hok
  obtain ⟨A, c, rfl, hc, hcm, -⟩ := hr
  obtain ⟨_, Ax, cx, rfl, hcx, hcxm, -⟩ := hxr
  have hl : ops.length ≤ 9223372036854775807 := by simp only [maxLen] at hcm; omega
  have hlx : xs.length ≤ 9223372036854775807 := by simp only [maxLen] at hcxm; omega
  clear hok hc hcm hx hcx hcxm
  by_cases hlenx : xs.length > 200
  · go_enter Try.func12, Try.ntmps12
    go_wp2_with (go_at_call 15; refine (awake_calls H.out).mono ?_; rintro e w1 ⟨rfl, h2⟩; have H2 := Lib.hid h2; clear h2)
    go_ret
    exact ⟨rfl, H2.out.below⟩
  by_cases hlen : ops.length > 200
  · go_enter Try.func12, Try.ntmps12
    go_wp2_with (go_at_call 15; refine (awake_calls H.out).mono ?_; rintro e w1 ⟨rfl, h2⟩; have H2 := Lib.hid h2; clear h2)
    go_ret
    exact ⟨rfl, H2.out.below⟩
  have hLen := unpack_length xs
  obtain ⟨L, hL⟩ : ∃ L, unpack xs = L := ⟨_, rfl⟩
  rw [hL] at hLen
  have HLL := Lib.hid hL
  have hLb : L.length ≤ 1000000000000 := by omega
  have hL8 : L.length % 8 = 0 := by omega
  have HLen := Lib.hid hLen
  clear hL
  go_enter Try.func12, Try.ntmps12
  go_wp2_with fail
  refine (awake_calls H.out).mono ?_
  rintro e w1 ⟨rfl, h2⟩
  have H2 := Lib.hid h2
  clear h2 H hLen hL8
  go_wp2_with fail
  refine (new_calls _ H2.out (fun W h => HXR.out.below h.below) (by omega)).mono ?_
  rintro e w2 ⟨ar, rfl, h3⟩
  have H3 := Lib.hid h3
  clear h3 H2
  go_wp2_with fail
  refine (qnew_calls _ H3.out (fun W h => HXR.out.below h.below) HX.out (by omega)).mono ?_
  rintro e w3 ⟨aq, rfl, h4⟩
  rw [HLL.out] at h4
  have H4 := Lib.hid h4.two
  clear h4 H3
  go_wp2_with fail
  go_loopw [8] (fun i wr => ∃ (k p : Nat), k ≤ ops.length ∧ p ≤ 8 * xs.length ∧ i = .int .i64 k ∧ Hid (St w.heap.size w wr (Rd ar xs p • Qr aq L p • emp))) (fun i _ => ops.length - (intOf i).toNat)
  case atStart => exact ⟨0, 0, Nat.zero_le _, Nat.zero_le _, rfl, H4⟩
  case round =>
    clear H4
    have hLen := HLen.out
    have hL8 : L.length % 8 = 0 := by omega
    obtain ⟨k, p, hk, hpx, rfl, HS⟩ := hrel
    by_cases hlt : k < ops.length
    · obtain ⟨o, ho⟩ : ∃ o, ops[k]? = some o := ⟨_, List.getElem?_eq_getElem hlt⟩
      obtain ⟨_, _, e, hc, hcm, hat⟩ := id HR.out
      obtain ⟨g, off, e2, d0, d1, d2, vo, d3, hb3⟩ := hat k o ho
      simp only [Value.slice.injEq] at e
      obtain ⟨rfl, -, rfl⟩ := e
      subst e2
      obtain ⟨what, v, wd, ob⟩ := o
      obtain ⟨⟨hw0, hw1⟩, -, ⟨hwd0, hwd1⟩, -⟩ := HOK.out _ (List.mem_of_getElem? ho)
      dsimp only at d0 d1 d2 d3 hb3 hw0 hw1 hwd0 hwd1
      have HC : Hid (∀ (W : World) (A : HP), St w.heap.size w W A → W.cell? ⟨g, off + k * 4, none⟩ = some (.int .i64 what) ∧ W.cell? ⟨g, off + k * 4 + 1, none⟩ = some (.int .u64 v) ∧ W.cell? ⟨g, off + k * 4 + 2, none⟩ = some (.int .i64 wd) ∧ W.cell? ⟨g, off + k * 4 + 3, none⟩ = some vo ∧ Reads8 W vo ob) :=
        Lib.hid fun W A h => ⟨cell_of_below h.below d0, cell_of_below h.below d1, cell_of_below h.below d2, cell_of_below h.below d3, hb3.below h.below⟩
      obtain ⟨c0, -, c2, -, -⟩ := HC.out _ _ HS.out
      clear hat hb3 ho hc hcm d0 d1 d2 d3
      by_cases h0 : what = 0
      · subst h0
        go_wp2_with fail
        refine (get_any wd HS.out hpx (by omega) HX.out).mono ?_
        rintro e w2 ⟨rfl, h3⟩
        obtain ⟨-, -, c2, -, -⟩ := HC.out _ _ h3
        have H3 := Lib.hid h3.two
        clear h3 HS
        go_wp2_with fail
        refine (qget_any wd H3.out (by omega) (by omega)).mono ?_
        rintro e w3 ⟨rfl, h4⟩
        have hqp := getP_le L p wd (by omega)
        have H5 := Lib.hid h4.two
        clear h4 H3
        rw [HLL.out] at H5 ⊢
        generalize getP L p wd = q at H5 hqp
        generalize getV L p wd = vv
        generalize getE L p wd = ee
        have hqb : q ≤ 8 * xs.length ∧ q ≤ L.length ∧ True := ⟨by omega, hqp, trivial⟩
        clear hqp
        have cq := (Qr.cells H5.out.two).2.1
        go_wp2_with fail
        go_region_held3 (fun W => W.cell? ⟨aq, 1, none⟩ = some (.int .i64 q)) (first | go_keep | exact (Qr.cells h6.two).2.1 | exact (Qr.cells h7).2.1)
          (first
            | (go_at_call 42; refine (pos_calls H5.out.drew).mono ?_; rintro e w' ⟨rfl, rfl⟩)
            | (go_at_call 49; refine (end_calls H5.out.drew hqb.1 (by omega) HX.out).mono ?_; rintro e w6 ⟨rfl, h6⟩; rw [HLL.out])
            | (go_at_call 50; refine (qend_calls h6.two hqb.2.1 hLb hL8).mono ?_; rintro e w7 ⟨rfl, h7⟩))
        have H7 := Lib.hid h7.two
        clear h6 h7 H5 cq
        go_wp2_with fail
        exact ⟨⟨k + 1, q, by omega, hqb.1, by go_num, H7⟩, by simp only [intOf]; omega⟩
      · have hd0 : (what == 0) = false := by simpa using h0
        clear h0
        by_cases h1 : what = 1
        · subst h1
          go_wp2_with fail
          refine (rdalign_calls HS.out hpx (by omega) HX.out).mono ?_
          rintro e w2 ⟨rfl, h3⟩
          have H3 := Lib.hid h3.two
          clear h3 HS
          go_wp2_with fail
          refine (qalign_calls H3.out (by omega) (by omega) hL8).mono ?_
          rintro e w3 ⟨rfl, h4⟩
          have hqp := alignP_le L p hL8 (by omega)
          have H5 := Lib.hid h4.two
          clear h4 H3
          rw [HLL.out] at H5 ⊢
          generalize alignP L p = q at H5 hqp
          generalize alignE L p = ee
          have hqb : q ≤ 8 * xs.length ∧ q ≤ L.length ∧ True := ⟨by omega, hqp, trivial⟩
          clear hqp
          have cq := (Qr.cells H5.out.two).2.1
          go_wp2_with fail
          go_region_held3 (fun W => W.cell? ⟨aq, 1, none⟩ = some (.int .i64 q)) (first | go_keep | exact (Qr.cells h6.two).2.1 | exact (Qr.cells h7).2.1)
            (first
              | (go_at_call 42; refine (pos_calls H5.out.drew).mono ?_; rintro e w' ⟨rfl, rfl⟩)
              | (go_at_call 49; refine (end_calls H5.out.drew hqb.1 (by omega) HX.out).mono ?_; rintro e w6 ⟨rfl, h6⟩; rw [HLL.out])
              | (go_at_call 50; refine (qend_calls h6.two hqb.2.1 hLb hL8).mono ?_; rintro e w7 ⟨rfl, h7⟩))
          have H7 := Lib.hid h7.two
          clear h6 h7 H5 cq
          go_wp2_with fail
          exact ⟨⟨k + 1, q, by omega, hqb.1, by go_num, H7⟩, by simp only [intOf]; omega⟩
        · have hd1 : (what == 1) = false := by simpa using h1
          clear h1
          go_wp2_with fail
          refine (rdocts_any wd HS.out hpx (by omega) HX.out).mono ?_
          rintro e w2 ⟨v2, rfl, h3⟩
          obtain ⟨-, -, c2, -, -⟩ := HC.out _ _ h3
          have H3 := Lib.hid h3.three
          clear h3 HS
          go_wp2_with fail
          refine (qocts_any wd H3.out (by omega) (by omega)).mono ?_
          rintro e w3 ⟨v3, rfl, h4⟩
          have hqp := octP_le L p wd (by omega)
          have H4 := Lib.hid h4
          clear h4 H3
          rw [HLL.out] at H4 ⊢
          generalize octP L p wd = q at H4 hqp
          generalize octV L p wd = vv at H4
          generalize octE L p wd = ee
          have hqb : q ≤ 8 * xs.length ∧ q ≤ L.length ∧ True := ⟨by omega, hqp, trivial⟩
          clear hqp
          go_wp2_with fail
          refine (same_eq v2 v3 vv _ H4.out.three.reads H4.out.reads).mono ?_
          rintro e w' ⟨rfl, rfl⟩
          have H5 := Lib.hid (H4.out.drop.two.drop.two)
          clear H4
          have cq := (Qr.cells H5.out.two).2.1
          go_wp2_with fail
          go_region_held3 (fun W => W.cell? ⟨aq, 1, none⟩ = some (.int .i64 q)) (first | go_keep | exact (Qr.cells h6.two).2.1 | exact (Qr.cells h7).2.1)
            (first
              | (go_at_call 42; refine (pos_calls H5.out.drew).mono ?_; rintro e w' ⟨rfl, rfl⟩)
              | (go_at_call 49; refine (end_calls H5.out.drew hqb.1 (by omega) HX.out).mono ?_; rintro e w6 ⟨rfl, h6⟩; rw [HLL.out])
              | (go_at_call 50; refine (qend_calls h6.two hqb.2.1 hLb hL8).mono ?_; rintro e w7 ⟨rfl, h7⟩))
          have H7 := Lib.hid h7.two
          clear h6 h7 H5 cq
          go_wp2_with fail
          exact ⟨⟨k + 1, q, by omega, hqb.1, by go_num, H7⟩, by simp only [intOf]; omega⟩
    · go_wp2_with fail
      refine (end_calls HS.out hpx (by omega) HX.out).mono ?_
      rintro e w6 ⟨rfl, h6⟩
      have H6 := Lib.hid h6.two
      clear h6 HS
      go_wp2_with fail
      refine (qend_calls H6.out (by omega) hLb hL8).mono ?_
      rintro e w7 ⟨rfl, h7⟩
      rw [HLL.out]
      have H7 := Lib.hid h7
      clear h7 H6
      generalize endE L p = ee
      go_wp2_with fail
      go_ret
      exact ⟨rfl, H7.out.below⟩
end Go.Proofs.Ytomjgjdnlbpleaa.Stream
