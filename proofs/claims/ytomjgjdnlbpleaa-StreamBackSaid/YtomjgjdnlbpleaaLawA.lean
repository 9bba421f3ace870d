/- The walks of the law's own helpers at layer 1. -/
import Derived.Test.YtomjgjdnlbpleaaRefC
namespace Go.Proofs.Ytomjgjdnlbpleaa.Stream
open Go.RowKit Go.Proofs.Ytomjgjdnlbpleaa.Sep Go.Proofs.Ytomjgjdnlbpleaa.Bits Go.Proofs.Ytomjgjdnlbpleaa.Num
variable {B : Nat} {w0 w : World} {R : HP} {a : Nat} {bits : List Bool}

theorem same_eq (va vb : Value) (xs : List Int) (w : World) (ha : Reads8 w va xs) (hb : Reads8 w vb xs) :
    Calls Try.prog 23 #[va, vb] w fun e w' => e = .returned (.bool true) ∧ w = w' := by
  have H := Lib.hid (And.intro ha hb)
  obtain ⟨_, A, c, rfl, -⟩ := ha
  obtain ⟨_, A', c', rfl, -⟩ := hb
  go_enter Try.func23, Try.ntmps23
  go_wp2_with (first | (with_reducible refine gate (N := 6) rfl ?_; refine conv_8str rfl _ rfl (.slice A xs.length c) xs rfl H.out.1 ?_) | (with_reducible refine gate (N := 8) rfl ?_; refine conv_8str rfl _ rfl (.slice A' xs.length c') xs rfl H.out.2 ?_))
  go_ret
  exact ⟨rfl, rfl⟩

theorem fresh (h : St B w0 w R) (n : Nat) (hn : w.heap.size = n) : St B w0 (w.alloc (.cells #[.slice none 0 0, .int .i64 0] 27)) (Wr n [] • R) := by
  subst hn
  exact Wr.shut (bits := []) (xs := []) ((h.nil _ _).alloc _) rfl rfl

theorem awake_calls (h : St B w0 w R) :
    Calls Try.prog 15 #[] w fun e w' => e = .returned (.bool true) ∧ St B w0 w' R := by
  have H := Lib.hid h
  clear h
  go_enter Try.func15, Try.ntmps15
  go_wp2_with fail
  refine (put_any 5 3 (by decide) (by decide) (by decide) (fresh H.out _ rfl)).mono ?_
  rintro e w1 ⟨rfl, h2⟩
  rw [show putErr 5 3 = 0 from by decide]
  rw [show putL [] 5 3 = [true, false, true] from by decide] at h2
  have H2 := Lib.hid h2
  clear h2
  go_wp2_with fail
  refine (align_calls H2.out (by decide)).mono ?_
  rintro e w2 ⟨rfl, h2⟩
  rw [show alignB [true, false, true] = [true, false, true, false, false, false, false, false] from by decide] at h2
  have H3 := Lib.hid h2
  clear h2
  go_wp2_with fail
  refine (put_any 1 2 (by decide) (by decide) (by decide) H3.out).mono ?_
  rintro e w3 ⟨rfl, h2⟩
  rw [show putErr 1 2 = 0 from by decide]
  rw [show putL [true, false, true, false, false, false, false, false] 1 2 = [true, false, true, false, false, false, false, false, false, true] from by decide] at h2
  have H4 := Lib.hid h2
  clear h2
  go_wp2_with fail
  refine (writer_len H4.out).mono ?_
  rintro e w' ⟨rfl, rfl⟩
  rw [show (([true, false, true, false, false, false, false, false, false, true] : List Bool).length : Int) = 10 from rfl]
  go_wp2_with fail
  refine (bytes_calls H4.out (by decide)).mono ?_
  rintro e w4 ⟨v4, rfl, h2⟩
  rw [show bytesOf [true, false, true, false, false, false, false, false, false, true] = [160, 64] from by decide] at h2
  have H5 := Lib.hid h2
  clear h2
  go_wp2_with fail
  refine (same_eq v4 _ [160, 64] _ (H5.out.alloc _).two.reads (St.blkReads (H5.out.alloc _) rfl rfl rfl (by decide))).mono ?_
  rintro e w' ⟨rfl, rfl⟩
  have H6 := Lib.hid (H5.out.alloc (.cells #[.int .u8 160, .int .u8 64] 5)).drop.drop.drop
  go_wp2_with fail
  refine (bytes_calls (fresh H6.out (w4.heap.size + 1) (by simp)) (by decide)).mono ?_
  rintro e w7 ⟨v7, rfl, h2⟩
  rw [show bytesOf [] = [0] from by decide] at h2
  have H7 := Lib.hid h2
  clear h2
  go_wp2_with fail
  refine (same_eq v7 _ [0] _ (H7.out.alloc _).two.reads (St.blkReads (H7.out.alloc _) rfl rfl rfl (by decide))).mono ?_
  rintro e w' ⟨rfl, rfl⟩
  go_wp2_with fail
  go_ret
  exact ⟨rfl, (H7.out.alloc _).drop.drop.drop⟩

end Go.Proofs.Ytomjgjdnlbpleaa.Stream
