/- The laws of layer 2: order and signs. -/
import Derived.Test.YtomjgjdnlbpleaaOctN
import Derived.Test.YtomjgjdnlbpleaaLawB
namespace Go.Proofs.Ytomjgjdnlbpleaa.Oct
open Go.RowKit Go.Proofs.Ytomjgjdnlbpleaa.Sep Go.Proofs.Ytomjgjdnlbpleaa.Stream
variable {B : Nat} {w0 w : World} {R : HP}

set_option maxHeartbeats 1000000 in
theorem law_order (x y : Int) (w : World) (h0 : 0 ≤ x) (h1 : x < 18446744073709551616) (hy0 : 0 ≤ y) (hy1 : y < 18446744073709551616) :
    Calls Try.prog 6 #[.int .u64 x, .int .u64 y] w fun e w' => e = .returned (.bool true) ∧ Below w.heap.size w w' := by
  have H := Lib.hid (St.start w)
  obtain ⟨hk1, hk2⟩ := ucount_bits x
  have hmono := fun h => ucount_mono x y hy0 h h1
  have hrk := ucount_range x h1
  have hry := ucount_range y hy1
  have hbp := bitLen_pow x h0 h1
  have hb64 := bitLen_le64 x.toNat (by omega)
  have hu := fun (W : World) (h : St w.heap.size w W emp) => unsigned_calls x h0 h1 h
  have huy := fun (W : World) (h : St w.heap.size w W emp) => unsigned_calls (B := w.heap.size) (w0 := w) (R := emp) y hy0 hy1 h
  have hc := fun (W : World) => count_calls x W h0 h1
  have hw := fun (W : World) => width_calls x W h0 h1
  have hlx : (bytesBE x (ucount x)).length = ucount x := bytesBE_length _ _
  have hly : (bytesBE y (ucount y)).length = ucount y := bytesBE_length _ _
  generalize bytesBE x (ucount x) = bx at hu hlx
  generalize bytesBE y (ucount y) = bY at huy hly
  generalize ucount x = k at hk1 hk2 hmono hrk hc hlx
  generalize ucount y = m at hmono hry hly
  generalize Lib.bitLen x.toNat = b at hk1 hk2 hbp hb64 hw
  have HU := Lib.hid (And.intro hu (And.intro huy (And.intro hlx hly)))
  have HC := Lib.hid (And.intro hc hw)
  clear hu huy hc hw hlx hly
  have t1 : x < y ∨ (y ≤ x ∧ (m : Int) ≤ k) := by
    rcases Int.lt_or_le x y with h | h
    · exact .inl h
    · exact .inr ⟨h, by have := hmono h; omega⟩
  have t2 : ((k : Int) == 1) = true ∨ ((k : Int) == 1) = false ∧ 8 * ((k : Int) - 1) < b := by
    by_cases h : k = 1
    · exact .inl (by rw [h]; rfl)
    · exact .inr ⟨by rw [beq_eq_false_iff_ne]; omega, by omega⟩
  have t3 : ((b : Int) == 64) = true ∨ (((b : Int) == 64) = false ∧ Go.bits .and .i64 (b : Int) 63 = b ∧ ∃ p, IntKind.u64.wrap (2 ^ b) = p ∧ x < p) := by
    by_cases h : b = 64
    · exact .inl (by rw [h]; rfl)
    · refine .inr ⟨by rw [beq_eq_false_iff_ne]; omega, by rw [i64_and63]; omega, _, rfl, ?_⟩
      have h2 := pow_mono b 63 (by omega)
      have h3 : (2 : Int) ^ 63 < 2 ^ 64 := by decide
      rw [Num.wraps_u64 _ (Int.le_of_lt (Int.pow_pos (by decide))) (by omega)]
      exact hbp
  clear hk2 hmono hbp hy0 hy1
  have hm64 : min b 64 = b := by omega
  have hge : 8 * (k : Int) ≥ b := by omega
  rcases t1 with t1 | ⟨t0, t1⟩ <;> rcases t2 with t2 | ⟨t2, t2'⟩ <;> rcases t3 with t3 | ⟨t3, t3', p, t3'', t3p⟩
  all_goals
    go_enter Try.func6, Try.ntmps6
    go_wp2_with fail
    refine (awake2_calls H.out).mono ?_
    rintro e w1 ⟨rfl, h2⟩
    have H1 := Lib.hid h2
    clear h2
    go_wp2_with fail
    refine (HU.out.1 _ H1.out).mono ?_
    rintro e w2 ⟨v2, rfl, h2⟩
    obtain ⟨A2, c2, rfl, hc2⟩ := row_shape h2 HU.out.2.2.1
    have H2 := Lib.hid h2.drop
    clear h2 H1
    go_wp2_with fail
    refine (HU.out.2.1 _ H2.out).mono ?_
    rintro e w3 ⟨v3, rfl, h2⟩
    obtain ⟨A3, c3, rfl, hc3⟩ := row_shape h2 HU.out.2.2.2
    have H3 := Lib.hid h2.drop
    clear h2 H2
    go_wp2_with (first | (go_at_call 29; refine (HC.out.1 _).mono ?_; rintro e w' ⟨rfl, rfl⟩) | (go_at_call 27; refine (HC.out.2 _).mono ?_; rintro e w' ⟨rfl, rfl⟩))
    go_ret
    exact ⟨rfl, H3.out.below⟩

set_option maxHeartbeats 1000000 in
theorem law_signs (n : Int) (w : World) (hn : -9223372036854775808 ≤ n ∧ n ≤ 9223372036854775807) :
    Calls Try.prog 7 #[.int .i64 n] w fun e w' => e = .returned (.bool true) ∧ Below w.heap.size w w' := by
  have H := Lib.hid (St.start w)
  obtain ⟨x, t, hxt, hx0, hx1, hxn⟩ := s_head n hn
  have hs := fun (W : World) (h : St w.heap.size w W emp) => signed_calls n hn.1 hn.2 h
  have hsl := scount_range n
  have hlen : (bytesBE n (scount n)).length = scount n := bytesBE_length _ _
  rw [hxt] at hs hlen
  generalize hk : scount n = k at hsl hlen
  obtain ⟨hsl1, hsl2⟩ := hsl
  have hk8 : (k : Int) ≤ 8 := by omega
  have HS := Lib.hid (And.intro hs (And.intro hlen (And.intro hxt hk)))
  clear hs hlen hxt hk
  have hkz : ((k : Int) == 0) = false := by rw [beq_eq_false_iff_ne]; omega
  obtain ⟨hn0, hn1⟩ := hn
  by_cases hneg : n < 0
  · have hx128 : 128 ≤ x := hxn.2 hneg
    clear hxn
    go_enter Try.func7, Try.ntmps7
    go_wp2_with fail
    refine (awake2_calls H.out).mono ?_
    rintro e w1 ⟨rfl, h2⟩
    have H1 := Lib.hid h2
    clear h2
    go_wp2_with fail
    refine (HS.out.1 _ H1.out).mono ?_
    rintro e w2 ⟨v2, rfl, h2⟩
    obtain ⟨A2, c2, rfl, hc2, hcm2, hcell⟩ := reads_form h2.reads
    obtain ⟨g, off, rfl, hcel⟩ := hcell (by simp)
    have cx : w2.cell? ⟨g, off, none⟩ = some (.int .u8 x) := hcel 0 _ rfl
    rw [HS.out.2.1] at hc2 ⊢
    have H2 := Lib.hid h2
    clear h2 H1 hcell hcel
    go_wp2
    go_ret
    exact ⟨rfl, H2.out.below⟩
  · have hx128 : x < 128 := by omega
    have hn00 : 0 ≤ n := by omega
    have hbb : (!decide (128 ≤ x) == decide (n < 0)) = false := by rw [decide_eq_false (show ¬ 128 ≤ x by omega), decide_eq_false hneg]; rfl
    clear hxn
    obtain ⟨y, t2, hyt, hy0, hy1⟩ := u_head n (by omega)
    have hpos := signs_pos n (by omega) hn1 y t2 hyt
    have hxy : x :: t = if 128 ≤ y then 0 :: y :: t2 else y :: t2 := by rw [← hpos, ← HS.out.2.2.1]
    obtain ⟨m, hm⟩ : ∃ m, (y :: t2).length = m := ⟨_, rfl⟩
    have hm1 : 1 ≤ m := by rw [← hm]; simp
    have hm8 : m ≤ 8 := by
      have := (ucount_range n (by omega)).2
      have h2 := congrArg List.length hyt
      rw [bytesBE_length, hm] at h2
      omega
    have hmz : ((m : Int) == 0) = false := by rw [beq_eq_false_iff_ne]; omega
    have hu := fun (v : Value) (W : World) (h : St w.heap.size w W (Row8 v (x :: t) • emp)) => unsigned_calls n (by omega) (by omega) h
    rw [hyt] at hu
    have HU := Lib.hid (And.intro hxy hm)
    clear hxy hm hpos hyt hneg
    go_enter Try.func7, Try.ntmps7
    go_wp2_with fail
    refine (awake2_calls H.out).mono ?_
    rintro e w1 ⟨rfl, h2⟩
    have H1 := Lib.hid h2
    clear h2
    go_wp2_with fail
    refine (HS.out.1 _ H1.out).mono ?_
    rintro e w2 ⟨v2, rfl, h2⟩
    obtain ⟨A2, c2, rfl, hc2, hcm2, hcell⟩ := reads_form h2.reads
    obtain ⟨g, off, rfl, hcel⟩ := hcell (by simp)
    have cx : w2.cell? ⟨g, off, none⟩ = some (.int .u8 x) := hcel 0 _ rfl
    have h3 := hu _ _ h2
    rw [HS.out.2.1] at hc2 h3 ⊢
    have H3 := Lib.hid h3
    clear h2 h3 H1 hcell hcel hu
    go_wp2_with fail
    refine H3.out.mono ?_
    rintro e w3 ⟨v3, rfl, h4⟩
    obtain ⟨A3, c3, rfl, hc3, hcm3, hcell⟩ := reads_form h4.reads
    obtain ⟨g3, off3, rfl, hcel⟩ := hcell (by simp)
    have cy : w3.cell? ⟨g3, off3, none⟩ = some (.int .u8 y) := hcel 0 _ rfl
    have H4 := Lib.hid h4
    rw [HU.out.2] at hc3 ⊢
    clear h4 H3 hcell hcel cx
    by_cases hy128 : 128 ≤ y
    · have hxy : x :: t = 0 :: y :: t2 := by rw [HU.out.1, if_pos hy128]
      have HX := Lib.hid hxy
      clear hxy
      go_wp2_with (at_builtin; refine append8 rfl _ _ rfl (.slice (some ⟨w3.heap.size, 0, none⟩) 1 1) (.slice (some ⟨g3, off3, none⟩) m c3) [0] (y :: t2) rfl (St.blkRow (H4.out.alloc _) (Nat.le_refl _) (by decide) rfl (.inr (Nat.le_refl _)) rfl) rfl (by rw [← HU.out.2]; exact (H4.out.alloc _).two.reads) (by rw [HU.out.2]; simp; omega) ?_; intro v4 w4 h5; rw [List.singleton_append, ← HX.out] at h5; have H5 := Lib.hid h5; clear h5)
      go_at_call 31
      refine (same2_eq (.slice (some ⟨g, off, none⟩) k c2) v4 (x :: t) _ H5.out.three.reads H5.out.reads).mono ?_
      rintro e w' ⟨rfl, rfl⟩
      go_wp2
      go_ret
      exact ⟨rfl, H5.out.below⟩
    · have hxy : x :: t = y :: t2 := by rw [HU.out.1, if_neg hy128]
      have HX := Lib.hid hxy
      clear hxy
      go_wp2_with fail
      refine (same2_eq (.slice (some ⟨g, off, none⟩) k c2) (.slice (some ⟨g3, off3, none⟩) m c3) (x :: t) _ H4.out.two.reads (by rw [HX.out, ← HU.out.2]; exact H4.out.reads)).mono ?_
      rintro e w' ⟨rfl, rfl⟩
      go_wp2
      go_ret
      exact ⟨rfl, H4.out.below⟩
end Go.Proofs.Ytomjgjdnlbpleaa.Oct
