/- The laws of layer 2: the walks. -/
import Derived.Test.YtomjgjdnlbpleaaOctE
import Derived.Test.YtomjgjdnlbpleaaOctP
namespace Go.Proofs.Ytomjgjdnlbpleaa.Oct
open Go.RowKit Go.Proofs.Ytomjgjdnlbpleaa.Sep Go.Proofs.Ytomjgjdnlbpleaa.Stream
variable {B : Nat} {w0 w : World} {R : HP}

theorem same2_eq (va vb : Value) (xs : List Int) (w : World) (ha : Reads8 w va xs) (hb : Reads8 w vb xs) :
    Calls Try.prog 31 #[va, vb] w fun e w' => e = .returned (.bool true) ∧ w = w' := by
  have H := Lib.hid (And.intro ha hb)
  obtain ⟨_, A, c, rfl, -⟩ := ha
  obtain ⟨_, A', c', rfl, -⟩ := hb
  go_enter Try.func31, Try.ntmps31
  go_wp2_with (first | (with_reducible refine gate (N := 6) rfl ?_; refine conv_8str rfl _ rfl (.slice A xs.length c) xs rfl H.out.1 ?_) | (with_reducible refine gate (N := 8) rfl ?_; refine conv_8str rfl _ rfl (.slice A' xs.length c') xs rfl H.out.2 ?_))
  go_ret
  exact ⟨rfl, rfl⟩

set_option maxHeartbeats 400000 in
theorem awake2_calls (h : St B w0 w R) :
    Calls Try.prog 26 #[] w fun e w' => e = .returned (.bool true) ∧ St B w0 w' R := by
  have H := Lib.hid h
  clear h
  go_enter Try.func26, Try.ntmps26
  go_wp2_with fail
  refine (fsigned_calls _ [255, 127] _ (St.blkReads (H.out.alloc _) rfl rfl rfl (by decide)) (by decide)).mono ?_
  rintro e W1 ⟨rfl, hw⟩
  rw [show sVal [255, 127] = -129 from by decide +kernel, show sErr [255, 127] = 0 from by decide +kernel]
  have h1 : St B w0 W1 R := by rw [← hw]; exact (H.out.alloc (.cells #[.int .u8 255, .int .u8 127] 5)).drop
  have H1 := Lib.hid h1
  clear H hw h1
  go_wp2_with fail
  refine (fsigned_calls _ [0, 1] _ (St.blkReads (H1.out.alloc _) rfl rfl rfl (by decide)) (by decide)).mono ?_
  rintro e W2 ⟨rfl, hw⟩
  rw [show sVal [0, 1] = 0 from by decide +kernel, show sErr [0, 1] = 3 from by decide +kernel]
  have h1 : St B w0 W2 R := by rw [← hw]; exact (H1.out.alloc (.cells #[.int .u8 0, .int .u8 1] 5)).drop
  have H2 := Lib.hid h1
  clear H1 hw h1
  go_wp2_with fail
  refine (unsigned_calls 256 (by decide) (by decide) H2.out).mono ?_
  rintro e w1 ⟨v1, rfl, h2⟩
  rw [show bytesBE 256 (ucount 256) = [1, 0] from by decide +kernel] at h2
  have H3 := Lib.hid h2
  clear h2 H2
  go_wp2_with fail
  refine (same2_eq v1 _ [1, 0] _ (H3.out.alloc _).two.reads (St.blkReads (H3.out.alloc _) rfl rfl rfl (by decide))).mono ?_
  rintro e w' ⟨rfl, rfl⟩
  have H4 := Lib.hid (H3.out.alloc (.cells #[.int .u8 1, .int .u8 0] 5)).drop.drop
  clear H3
  go_wp2_with fail
  refine (signed_calls (-129) (by decide) (by decide) H4.out).mono ?_
  rintro e w2 ⟨v2, rfl, h2⟩
  rw [show bytesBE (-129) (scount (-129)) = [255, 127] from by decide +kernel] at h2
  have H5 := Lib.hid h2
  clear h2 H4
  go_wp2_with fail
  refine (same2_eq v2 _ [255, 127] _ (H5.out.alloc _).two.reads (St.blkReads (H5.out.alloc _) rfl rfl rfl (by decide))).mono ?_
  rintro e w' ⟨rfl, rfl⟩
  have H6 := Lib.hid (H5.out.alloc (.cells #[.int .u8 255, .int .u8 127] 5)).drop.drop
  clear H5
  go_wp2_with fail
  refine (width_calls 8 _ (by decide) (by decide)).mono ?_
  rintro e w' ⟨rfl, rfl⟩
  rw [show ((Lib.bitLen (8 : Int).toNat : Nat) : Int) = 4 from by decide +kernel]
  go_wp2_with fail
  refine (count_calls 0 _ (by decide) (by decide)).mono ?_
  rintro e w' ⟨rfl, rfl⟩
  rw [show ((ucount 0 : Nat) : Int) = 1 from by decide +kernel]
  go_wp2_with fail
  go_ret
  exact ⟨rfl, H6.out⟩

set_option maxHeartbeats 400000 in
theorem law_writes (v n : Int) (w : World) (h0 : 0 ≤ v) (h1 : v < 18446744073709551616) (hn : -9223372036854775808 ≤ n ∧ n ≤ 9223372036854775807) :
    Calls Try.prog 5 #[.int .u64 v, .int .i64 n] w fun e w' => e = .returned (.bool true) ∧ Below w.heap.size w w' := by
  have H := Lib.hid (St.start w)
  go_enter Try.func5, Try.ntmps5
  go_wp2_with fail
  refine (awake2_calls H.out).mono ?_
  rintro e w1 ⟨rfl, h2⟩
  have H1 := Lib.hid h2
  clear h2 H
  go_wp2_with fail
  refine (width_calls v _ h0 h1).mono ?_
  rintro e w' ⟨rfl, rfl⟩
  go_wp2_with fail
  refine (rwidth_calls v _ h0 h1).mono ?_
  rintro e w' ⟨rfl, rfl⟩
  go_wp2_with fail
  refine (count_calls v _ h0 h1).mono ?_
  rintro e w' ⟨rfl, rfl⟩
  go_wp2_with fail
  refine (rcount_calls v _ h0 h1).mono ?_
  rintro e w' ⟨rfl, rfl⟩
  go_wp2_with fail
  refine (unsigned_calls v h0 h1 H1.out).mono ?_
  rintro e w2 ⟨v2, rfl, h2⟩
  have H2 := Lib.hid h2
  clear h2 H1
  go_wp2_with fail
  refine (runsigned_calls v h0 h1 H2.out).mono ?_
  rintro e w3 ⟨v3, rfl, h2⟩
  have H3 := Lib.hid h2
  clear h2 H2
  go_wp2_with fail
  refine (same2_eq v2 v3 _ _ H3.out.two.reads H3.out.reads).mono ?_
  rintro e w' ⟨rfl, rfl⟩
  have H4 := Lib.hid H3.out.drop.drop
  clear H3
  go_wp2_with fail
  refine (signed_calls n hn.1 hn.2 H4.out).mono ?_
  rintro e w4 ⟨v4, rfl, h2⟩
  have H5 := Lib.hid h2
  clear h2 H4
  go_wp2_with fail
  refine (rsigned_calls n hn.1 hn.2 H5.out).mono ?_
  rintro e w5 ⟨v5, rfl, h2⟩
  have H6 := Lib.hid h2
  clear h2 H5
  go_wp2_with fail
  refine (same2_eq v4 v5 _ _ H6.out.two.reads H6.out.reads).mono ?_
  rintro e w' ⟨rfl, rfl⟩
  go_wp2_with fail
  go_ret
  exact ⟨rfl, H6.out.below⟩
end Go.Proofs.Ytomjgjdnlbpleaa.Oct
