/- StreamNone: the walk of the law. -/
import Derived.Test.YtomjgjdnlbpleaaRdB
import Derived.Test.YtomjgjdnlbpleaaLawB
namespace Go.Proofs.Ytomjgjdnlbpleaa.Stream
open Go.RowKit Go.Proofs.Ytomjgjdnlbpleaa.Sep Go.Proofs.Ytomjgjdnlbpleaa.Bits Go.Proofs.Ytomjgjdnlbpleaa.Num
variable {B : Nat} {w0 w : World} {R : HP}

theorem wlen_nil (w : World) :
    Calls Try.prog 22 #[.pointer none] w fun e w' => e = .returned (.int .i64 0) ∧ w = w' := by
  go_enter Try.func22, Try.ntmps22
  go_wp2
  go_ret
  exact ⟨rfl, rfl⟩

set_option maxHeartbeats 4000000 in
set_option maxRecDepth 100000 in
theorem none_calls (x n : Int) (v : Value) (w : World) :
    Calls Try.prog 13 #[.int .u64 x, .int .i64 n, v] w fun e w' => e = .returned (.bool true) ∧ Below w.heap.size w w' := by
  have H := Lib.hid (St.start w)
  go_enter Try.func13, Try.ntmps13
  go_wp2_with fail
  refine (awake_calls H.out).mono ?_
  rintro e w1 ⟨rfl, h2⟩
  have H2 := Lib.hid h2
  clear h2 H
  go_wp2_with fail
  refine (align_nil _).mono ?_
  rintro e w' ⟨rfl, rfl⟩
  go_wp2_with fail
  refine (get_nil _ _).mono ?_
  rintro e w' ⟨rfl, rfl⟩
  go_wp2_with fail
  refine (rdocts_nil _ _).mono ?_
  rintro e w' ⟨rfl, rfl⟩
  go_wp2_with fail
  refine (put_any 3 2 (by decide) (by decide) (by decide) (fresh H2.out _ rfl)).mono ?_
  rintro e w2 ⟨rfl, h3⟩
  rw [show putL [] 3 2 = [true, true] from by decide] at h3
  have H3 := Lib.hid h3
  clear h3
  go_wp2_with fail
  refine (bytes_calls H3.out (by decide)).mono ?_
  rintro e w3 ⟨v3, rfl, h4⟩
  rw [show bytesOf [true, true] = [192] from by decide] at h4
  have H4 := Lib.hid h4.two
  clear h4 H3
  go_wp2_with fail
  refine (put_any 1 1 (by decide) (by decide) (by decide) H4.out).mono ?_
  rintro e w4 ⟨rfl, h5⟩
  rw [show putL [true, true] 1 1 = [true, true, true] from by decide] at h5
  obtain ⟨g, cap, e3, hc1, hcm, hcell, hfr, hset⟩ := h5.two.rowFull (by decide)
  subst e3
  have hcell0 := hcell 0 (.int .u8 192) rfl
  have hfr0 := hfr 0 (by decide)
  have HS := Lib.hid (hset 0 (.int .u8 0) (by decide)).two
  clear h5 hcell hfr hset H4
  go_wp2_with fail
  refine (put_nil _ _ _).mono ?_
  rintro e w' ⟨rfl, rfl⟩
  go_wp2_with fail
  refine (octets_nil _ _).mono ?_
  rintro e w' ⟨rfl, rfl⟩
  go_wp2_with fail
  refine (wlen_nil _).mono ?_
  rintro e w' ⟨rfl, rfl⟩
  go_wp2_with fail
  refine (bytes_nil _ HS.out).mono ?_
  rintro e w5 ⟨v5, rfl, h6⟩
  have H6 := Lib.hid h6
  clear h6 HS hcell0 hfr0
  go_wp2_with fail
  refine (same_eq v5 _ [0] _ (H6.out.alloc _).two.reads (St.blkReads (H6.out.alloc _) rfl rfl rfl (by decide))).mono ?_
  rintro e w' ⟨rfl, rfl⟩
  have H7 := Lib.hid (H6.out.alloc (.cells #[.int .u8 0] 5)).drop.drop
  clear H6
  go_wp2_with fail
  refine (ralign_nil _).mono ?_
  rintro e w' ⟨rfl, rfl⟩
  go_wp2_with fail
  refine (pos_nil _).mono ?_
  rintro e w' ⟨rfl, rfl⟩
  go_wp2_with fail
  refine (end_nil _).mono ?_
  rintro e w' ⟨rfl, rfl⟩
  go_wp2_with fail
  refine (bytes_calls H7.out (by decide)).mono ?_
  rintro e w6 ⟨v6, rfl, h8⟩
  rw [show bytesOf [true, true, true] = [224] from by decide] at h8
  have H8 := Lib.hid h8
  clear h8 H7
  go_wp2_with fail
  refine (same_eq v6 _ [224] _ (H8.out.alloc _).two.reads (St.blkReads (H8.out.alloc _) rfl rfl rfl (by decide))).mono ?_
  rintro e w' ⟨rfl, rfl⟩
  have H9 := Lib.hid (H8.out.alloc (.cells #[.int .u8 224] 5)).below
  go_wp2
  go_ret
  exact ⟨rfl, H9.out⟩
end Go.Proofs.Ytomjgjdnlbpleaa.Stream
