/- The walks of the reference's layer 1: bits as a text. -/
import Derived.Test.YtomjgjdnlbpleaaStrmO
namespace Go.Proofs.Ytomjgjdnlbpleaa.Stream
open Go.RowKit Go.Proofs.Ytomjgjdnlbpleaa.Sep Go.Proofs.Ytomjgjdnlbpleaa.Bits Go.Proofs.Ytomjgjdnlbpleaa.Num
variable {B : Nat} {w0 w : World} {R : HP} {a : Nat} {bits : List Bool}

theorem nums_strOfNums (xs : List Int) (h : ∀ x ∈ xs, 0 ≤ x ∧ x < 256) : nums (strOfNums xs) = xs := by
  unfold nums
  rw [strOfNums_data, List.map_map]
  conv => rhs; rw [← List.map_id xs]
  refine List.map_congr_left fun x hx => ?_
  have := h x hx
  show ((UInt8.ofNat x.toNat).toNat : Int) = x
  simp
  omega
theorem chrB_range (l : List Bool) : ∀ x ∈ l.map chrB, 0 ≤ x ∧ x < 256 := by
  intro x hx
  obtain ⟨b, _, rfl⟩ := List.mem_map.1 hx
  cases b <;> simp [chrB]
theorem nums_strOf (l : List Bool) : nums (strOf l) = l.map chrB := nums_strOfNums _ (chrB_range l)

/-- The bits behind a Put. -/
def putL (l : List Bool) (v width : Int) : List Bool := if putErr v width = 0 then l ++ putB v width.toNat else l
theorem putL_length (l : List Bool) (v width : Int) : (putL l v width).length ≤ l.length + 64 := by
  unfold putL
  split
  · rename_i h
    unfold putErr at h
    split at h
    · cases h
    · rw [List.length_append, putB_length]; omega
  · omega

theorem chr_bit (v : Int) (h0 : 0 ≤ v) (h1 : v < 18446744073709551616) (n : Nat) : (48 + Go.bits .and .u64 (v / 2 ^ n) 1) % 256 = chrB (decide (v / 2 ^ n % 2 = 1)) := by
  obtain ⟨h2, h3⟩ := div_pow_range v h0 h1 n
  rw [u64_and1 _ h2 h3]
  by_cases h : v / 2 ^ n % 2 = 1 <;> simp [chrB, h] <;> omega
theorem putB_down (v : Int) (n j : Nat) (h : j < n) : putB (v / 2 ^ (j + 1)) (n - 1 - j) ++ [decide (v / 2 ^ j % 2 = 1)] = putB (v / 2 ^ j) (n - j) := by
  have e : n - j = (n - 1 - j) + 1 := by omega
  rw [e, putB, Int.pow_succ, ← Int.ediv_ediv_of_nonneg (Int.le_of_lt (Int.pow_pos (by decide)))]

theorem put_any (v width : Int) (hv0 : 0 ≤ v) (hv1 : v < 18446744073709551616) (hb : bits.length ≤ 1000000000000) (h : St B w0 w (Wr a bits • R)) :
    Calls Try.prog 17 #[.pointer (some ⟨a, 0, none⟩), .int .u64 v, .int .i64 width] w fun e w' => e = .returned (.int .i64 (putErr v width)) ∧ St B w0 w' (Wr a (putL bits v width) • R) := by
  by_cases h1 : width < 0 ∨ 64 < width
  · have he : putErr v width = 1 := by unfold putErr; rw [if_pos (by omega)]
    refine (put_bad v width w _ h1).mono ?_
    rintro e w' ⟨rfl, rfl⟩
    rw [putL, he]
    exact ⟨rfl, by simpa using h⟩
  · cases hw : wideB v width with
    | true =>
      have he : putErr v width = 1 := by unfold putErr; rw [if_pos (by simp [hw])]
      refine (put_wide v width w _ (by omega) (by omega) hw).mono ?_
      rintro e w' ⟨rfl, rfl⟩
      rw [putL, he]
      exact ⟨rfl, by simpa using h⟩
    | false =>
      have he : putErr v width = 0 := by unfold putErr; rw [if_neg (by rw [hw]; simp; omega)]
      rw [putL, he]
      exact put_calls v width (by omega) (by omega) hv0 hv1 hw hb h

set_option maxHeartbeats 400000 in
theorem rput_a (l : List Bool) (v : Int) (n : Nat) (hn : n ≤ 64) (hv0 : 0 ≤ v) (hv1 : v < 18446744073709551616) (hb : l.length ≤ 1000000000000) (h64 : n < 64) (hw2 : decide (0 < v / 2 ^ n) = false) (h : St B w0 w R) :
    Calls Try.prog 16 #[.string (strOf l), .int .u64 v, .int .i64 n] w fun e w' => e = .returned (.tuple #[.string (strOf (l ++ putB v n)), .int .i64 0]) ∧ St B w0 w' R := by
  have hs := strOf_size l
  have HS := Lib.hid (And.intro h hs)
  clear h hs
  go_enter Try.func16, Try.ntmps16
  go_wp2_with (with_reducible refine gate (N := 29) rfl ?_; refine conv_str8 rfl _ rfl (strOf l) rfl HS.out.1 (by rw [HS.out.2]; omega) ?_; intro vb w1 h2; rw [nums_strOf] at h2; have H2 := Lib.hid h2; clear h2)
  go_loopw [8, 9] (fun vb i wr => ∃ i0 : Int, -1 ≤ i0 ∧ i0 ≤ n - 1 ∧ i = .int .i64 i0 ∧ Hid (St B w0 wr (Row8 vb ((l ++ putB (v / 2 ^ (i0 + 1).toNat) (n - 1 - i0).toNat).map chrB) • R))) (fun _ i _ => (intOf i + 1).toNat)
  case atStart =>
    refine ⟨n - 1, by omega, by omega, rfl, Lib.hid ?_⟩
    have e : ((n : Int) - 1 - (n - 1)).toNat = 0 := by omega
    rw [e]
    simpa [putB] using H2.out
  case round =>
    clear H2
    obtain ⟨i0, hi0, hi1, rfl, H3⟩ := hrel
    by_cases hlt : 0 ≤ i0
    · obtain ⟨j, rfl⟩ := Int.eq_ofNat_of_zero_le hlt
      have e1 : ((j : Int) + 1).toNat = j + 1 := by omega
      have e2 : ((n : Int) - 1 - j).toNat = n - 1 - j := by omega
      rw [e1, e2] at H3
      clear e1 e2
      have hj : j < n := by omega
      have hlen : ((l ++ putB (v / 2 ^ (j + 1)) (n - 1 - j)).map chrB).length + 1 ≤ 70368744177664 := by
        rw [List.length_map, List.length_append, putB_length]; omega
      have HL := Lib.hid hlen
      clear hlen
      go_wp2_with (at_builtin; refine append8 rfl _ _ rfl u8 _ _ [(48 + Go.bits .and .u64 (v / 2 ^ j) 1) % 256] rfl (H3.out.alloc _).two rfl (St.blkReads (H3.out.alloc _) rfl rfl rfl (by simp)) HL.out ?_; intro v' w2 h4; rw [chr_bit v hv0 hv1 j] at h4; have H4 := Lib.hid h4.two.drop; clear h4)
      refine ⟨⟨(j : Int) - 1, by omega, by omega, by go_num, Lib.hid ?_⟩, by simp [intOf]⟩
      have e1 : ((j : Int) - 1 + 1).toNat = j := by omega
      have e2 : ((n : Int) - 1 - (j - 1)).toNat = n - j := by omega
      rw [e1, e2, ← putB_down v n j hj]
      simpa using H4.out
    · go_wp2_with (with_reducible refine gate (N := 47) rfl ?_; refine conv_8str rfl _ rfl u8 _ rfl H3.out.reads ?_)
      go_ret2
      refine ⟨?_, H3.out.drop⟩
      have e : i0 = -1 := by omega
      rw [e]
      have e2 : ((n : Int) - 1 - -1).toNat = n := by omega
      rw [e2]
      simp [strOf]

set_option maxHeartbeats 400000 in
theorem rput_b (l : List Bool) (v : Int) (n : Nat) (hn : n ≤ 64) (hv0 : 0 ≤ v) (hv1 : v < 18446744073709551616) (hb : l.length ≤ 1000000000000) (h64 : ¬ n < 64) (h : St B w0 w R) :
    Calls Try.prog 16 #[.string (strOf l), .int .u64 v, .int .i64 n] w fun e w' => e = .returned (.tuple #[.string (strOf (l ++ putB v n)), .int .i64 0]) ∧ St B w0 w' R := by
  have hs := strOf_size l
  have HS := Lib.hid (And.intro h hs)
  clear h hs
  go_enter Try.func16, Try.ntmps16
  go_wp2_with (with_reducible refine gate (N := 29) rfl ?_; refine conv_str8 rfl _ rfl (strOf l) rfl HS.out.1 (by rw [HS.out.2]; omega) ?_; intro vb w1 h2; rw [nums_strOf] at h2; have H2 := Lib.hid h2; clear h2)
  go_loopw [8, 9] (fun vb i wr => ∃ i0 : Int, -1 ≤ i0 ∧ i0 ≤ n - 1 ∧ i = .int .i64 i0 ∧ Hid (St B w0 wr (Row8 vb ((l ++ putB (v / 2 ^ (i0 + 1).toNat) (n - 1 - i0).toNat).map chrB) • R))) (fun _ i _ => (intOf i + 1).toNat)
  case atStart =>
    refine ⟨n - 1, by omega, by omega, rfl, Lib.hid ?_⟩
    have e : ((n : Int) - 1 - (n - 1)).toNat = 0 := by omega
    rw [e]
    simpa [putB] using H2.out
  case round =>
    clear H2
    obtain ⟨i0, hi0, hi1, rfl, H3⟩ := hrel
    by_cases hlt : 0 ≤ i0
    · obtain ⟨j, rfl⟩ := Int.eq_ofNat_of_zero_le hlt
      have e1 : ((j : Int) + 1).toNat = j + 1 := by omega
      have e2 : ((n : Int) - 1 - j).toNat = n - 1 - j := by omega
      rw [e1, e2] at H3
      clear e1 e2
      have hj : j < n := by omega
      have hlen : ((l ++ putB (v / 2 ^ (j + 1)) (n - 1 - j)).map chrB).length + 1 ≤ 70368744177664 := by
        rw [List.length_map, List.length_append, putB_length]; omega
      have HL := Lib.hid hlen
      clear hlen
      go_wp2_with (at_builtin; refine append8 rfl _ _ rfl u8 _ _ [(48 + Go.bits .and .u64 (v / 2 ^ j) 1) % 256] rfl (H3.out.alloc _).two rfl (St.blkReads (H3.out.alloc _) rfl rfl rfl (by simp)) HL.out ?_; intro v' w2 h4; rw [chr_bit v hv0 hv1 j] at h4; have H4 := Lib.hid h4.two.drop; clear h4)
      refine ⟨⟨(j : Int) - 1, by omega, by omega, by go_num, Lib.hid ?_⟩, by simp [intOf]⟩
      have e1 : ((j : Int) - 1 + 1).toNat = j := by omega
      have e2 : ((n : Int) - 1 - (j - 1)).toNat = n - j := by omega
      rw [e1, e2, ← putB_down v n j hj]
      simpa using H4.out
    · go_wp2_with (with_reducible refine gate (N := 47) rfl ?_; refine conv_8str rfl _ rfl u8 _ rfl H3.out.reads ?_)
      go_ret2
      refine ⟨?_, H3.out.drop⟩
      have e : i0 = -1 := by omega
      rw [e]
      have e2 : ((n : Int) - 1 - -1).toNat = n := by omega
      rw [e2]
      simp [strOf]

set_option maxHeartbeats 400000 in
theorem rput_ok (l : List Bool) (v : Int) (n : Nat) (hn : n ≤ 64) (hv0 : 0 ≤ v) (hv1 : v < 18446744073709551616) (hw : wideB v n = false) (hb : l.length ≤ 1000000000000) (h : St B w0 w R) :
    Calls Try.prog 16 #[.string (strOf l), .int .u64 v, .int .i64 n] w fun e w' => e = .returned (.tuple #[.string (strOf (l ++ putB v n)), .int .i64 0]) ∧ St B w0 w' R := by
  have hw1 : n < 64 → decide (0 < v / 2 ^ n) = false := by
    intro hn
    have := (div_pow_range v hv0 hv1 n).1
    have : v / 2 ^ n = 0 := by simp [wideB] at hw; exact hw (by omega)
    rw [this]; rfl
  by_cases h64 : n < 64
  · have hw2 := hw1 h64
    clear hw1
    exact rput_a l v n hn hv0 hv1 hb h64 hw2 h
  · exact rput_b l v n hn hv0 hv1 hb h64 h

theorem rput_bad (s : ByteArray) (v width : Int) (w : World) (hw : width < 0 ∨ 64 < width) :
    Calls Try.prog 16 #[.string s, .int .u64 v, .int .i64 width] w fun e w' => e = .returned (.tuple #[.string s, .int .i64 1]) ∧ w = w' := by
  by_cases h : width < 0
  · go_enter Try.func16, Try.ntmps16
    go_wp2
    go_ret2
    exact ⟨rfl, rfl⟩
  · have h2 : 64 < width := by omega
    go_enter Try.func16, Try.ntmps16
    go_wp2
    go_ret2
    exact ⟨rfl, rfl⟩
theorem rput_wide (s : ByteArray) (v : Int) (n : Nat) (w : World) (hn : n < 64) (hv0 : 0 ≤ v) (hv1 : v < 18446744073709551616) (hw : wideB v n = true) :
    Calls Try.prog 16 #[.string s, .int .u64 v, .int .i64 n] w fun e w' => e = .returned (.tuple #[.string s, .int .i64 1]) ∧ w = w' := by
  have hd : decide (0 < v / 2 ^ n) = true := by
    have := (div_pow_range v hv0 hv1 n).1
    have h2 : v / 2 ^ n ≠ 0 := by simp [wideB] at hw; exact hw.2
    simp; omega
  go_enter Try.func16, Try.ntmps16
  go_wp2
  go_ret2
  exact ⟨rfl, rfl⟩
theorem rput_any (l : List Bool) (v width : Int) (hv0 : 0 ≤ v) (hv1 : v < 18446744073709551616) (hb : l.length ≤ 1000000000000) (h : St B w0 w R) :
    Calls Try.prog 16 #[.string (strOf l), .int .u64 v, .int .i64 width] w fun e w' => e = .returned (.tuple #[.string (strOf (putL l v width)), .int .i64 (putErr v width)]) ∧ St B w0 w' R := by
  by_cases h1 : width < 0 ∨ 64 < width
  · have he : putErr v width = 1 := by unfold putErr; rw [if_pos (by omega)]
    refine (rput_bad _ v width w h1).mono ?_
    rintro e w' ⟨rfl, rfl⟩
    rw [putL, he]
    exact ⟨rfl, h⟩
  · obtain ⟨n, rfl⟩ := Int.eq_ofNat_of_zero_le (show 0 ≤ width by omega)
    cases hw : wideB v n with
    | true =>
      have he : putErr v n = 1 := by unfold putErr; rw [if_pos (by simp [hw])]
      refine (rput_wide _ v n w (by simp [wideB] at hw; omega) hv0 hv1 hw).mono ?_
      rintro e w' ⟨rfl, rfl⟩
      rw [putL, he]
      exact ⟨rfl, h⟩
    | false =>
      have he : putErr v n = 0 := by unfold putErr; rw [if_neg (by rw [hw]; simp; omega)]
      rw [putL, he]
      exact rput_ok l v n (by omega) hv0 hv1 hw hb h

end Go.Proofs.Ytomjgjdnlbpleaa.Stream
