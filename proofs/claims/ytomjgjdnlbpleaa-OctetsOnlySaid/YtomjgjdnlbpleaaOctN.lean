/- The laws of layer 2: the walks of the other five. -/
import Derived.Test.YtomjgjdnlbpleaaOctL
namespace Go.Proofs.Ytomjgjdnlbpleaa.Oct
open Go.RowKit Go.Proofs.Ytomjgjdnlbpleaa.Sep Go.Proofs.Ytomjgjdnlbpleaa.Stream
variable {B : Nat} {w0 w : World} {R : HP}

set_option maxHeartbeats 400000 in
theorem law_reads (vb : Value) (xs : List Int) (w : World) (hr : Reads8 w vb xs) (hx : ∀ x ∈ xs, 0 ≤ x ∧ x < 256) :
    Calls Try.prog 8 #[vb] w fun e w' => e = .returned (.bool true) ∧ Below w.heap.size w w' := by
  have H := Lib.hid (St.start w)
  have HR := Lib.hid (And.intro hr hx)
  obtain ⟨_, A, c, rfl, -⟩ := hr
  clear hx
  go_enter Try.func8, Try.ntmps8
  go_wp2_with fail
  refine (awake2_calls H.out).mono ?_
  rintro e w1 ⟨rfl, h2⟩
  have HR1 := Lib.hid (HR.out.1.below h2.below)
  have H1 := Lib.hid h2
  clear h2 H
  go_wp2_with fail
  refine (funsigned_calls _ xs _ HR1.out HR.out.2).mono ?_
  rintro e w' ⟨rfl, rfl⟩
  go_wp2_with fail
  refine (rfunsigned_calls _ xs _ HR1.out HR.out.2).mono ?_
  rintro e w' ⟨rfl, rfl⟩
  go_wp2_with fail
  refine (fsigned_calls _ xs _ HR1.out HR.out.2).mono ?_
  rintro e w' ⟨rfl, rfl⟩
  go_wp2_with fail
  refine (rfsigned_calls _ xs _ HR1.out HR.out.2).mono ?_
  rintro e w' ⟨rfl, rfl⟩
  go_wp2_with fail
  go_ret
  exact ⟨rfl, H1.out.below⟩

set_option maxHeartbeats 400000 in
theorem law_back (v n : Int) (w : World) (h0 : 0 ≤ v) (h1 : v < 18446744073709551616) (hn : -9223372036854775808 ≤ n ∧ n ≤ 9223372036854775807) :
    Calls Try.prog 9 #[.int .u64 v, .int .i64 n] w fun e w' => e = .returned (.bool true) ∧ Below w.heap.size w w' := by
  have H := Lib.hid (St.start w)
  have HB := Lib.hid (And.intro (u_back v h0 h1) (s_back n hn))
  go_enter Try.func9, Try.ntmps9
  go_wp2_with fail
  refine (awake2_calls H.out).mono ?_
  rintro e w1 ⟨rfl, h2⟩
  have H1 := Lib.hid h2
  clear h2 H
  go_wp2_with fail
  refine (unsigned_calls v h0 h1 H1.out).mono ?_
  rintro e w2 ⟨v2, rfl, h2⟩
  have H2 := Lib.hid h2
  clear h2 H1
  go_wp2_with fail
  refine (funsigned_calls v2 _ _ H2.out.reads (bytesBE_range _ _)).mono ?_
  rintro e w' ⟨rfl, rfl⟩
  rw [HB.out.1.1, HB.out.1.2]
  go_wp2_with fail
  refine (signed_calls n hn.1 hn.2 H2.out).mono ?_
  rintro e w3 ⟨v3, rfl, h2⟩
  have H3 := Lib.hid h2
  clear h2 H2
  go_wp2_with fail
  refine (fsigned_calls v3 _ _ H3.out.reads (bytesBE_range _ _)).mono ?_
  rintro e w' ⟨rfl, rfl⟩
  rw [HB.out.2.1, HB.out.2.2]
  go_wp2_with fail
  go_ret
  exact ⟨rfl, H3.out.below⟩

/-- FromUnsigned's answer, in two cases. -/
theorem u_cases (v : Value) (xs : List Int) (hx : ∀ x ∈ xs, 0 ≤ x ∧ x < 256) :
    (∃ a : Int, 0 ≤ a ∧ a < 18446744073709551616 ∧ bytesBE a (ucount a) = xs ∧ ∀ W, Reads8 W v xs → Calls Try.prog 36 #[v] W fun e w' => e = .returned (.tuple #[.int .u64 a, .int .i64 0]) ∧ W = w') ∨
    (∃ e0 : Int, (e0 == 0) = false ∧ (e0 != 0) = true ∧ ∀ W, Reads8 W v xs → Calls Try.prog 36 #[v] W fun e w' => e = .returned (.tuple #[.int .u64 0, .int .i64 e0]) ∧ W = w') := by
  by_cases h : uErr xs = 0
  · obtain ⟨h1, h2, h3⟩ := u_only xs hx h
    refine .inl ⟨_, h1, h2, h3, fun W hW => ?_⟩
    have := funsigned_calls v xs W hW hx
    rwa [h] at this
  · refine .inr ⟨uErr xs, by simpa using h, by simpa using h, fun W hW => ?_⟩
    have := funsigned_calls v xs W hW hx
    rwa [show uVal xs = 0 from by unfold uVal; rw [if_neg h]] at this
theorem s_cases (v : Value) (xs : List Int) (hx : ∀ x ∈ xs, 0 ≤ x ∧ x < 256) :
    (∃ a : Int, (-9223372036854775808 ≤ a ∧ a ≤ 9223372036854775807) ∧ bytesBE a (scount a) = xs ∧ ∀ W, Reads8 W v xs → Calls Try.prog 38 #[v] W fun e w' => e = .returned (.tuple #[.int .i64 a, .int .i64 0]) ∧ W = w') ∨
    (∃ e0 : Int, (e0 == 0) = false ∧ (e0 != 0) = true ∧ ∀ W, Reads8 W v xs → Calls Try.prog 38 #[v] W fun e w' => e = .returned (.tuple #[.int .i64 0, .int .i64 e0]) ∧ W = w') := by
  by_cases h : sErr xs = 0
  · obtain ⟨h1, h3⟩ := s_only xs hx h
    refine .inl ⟨_, h1, h3, fun W hW => ?_⟩
    have := fsigned_calls v xs W hW hx
    rwa [h] at this
  · refine .inr ⟨sErr xs, by simpa using h, by simpa using h, fun W hW => ?_⟩
    have := fsigned_calls v xs W hW hx
    rwa [show sVal xs = 0 from by unfold sVal; rw [if_neg h]] at this

set_option maxHeartbeats 1000000 in
theorem law_only (vb : Value) (xs : List Int) (w : World) (hr : Reads8 w vb xs) (hx : ∀ x ∈ xs, 0 ≤ x ∧ x < 256) :
    Calls Try.prog 10 #[vb] w fun e w' => e = .returned (.bool true) ∧ Below w.heap.size w w' := by
  have H := Lib.hid (St.start w)
  have HR := Lib.hid (And.intro hr hx)
  have hcu := u_cases vb xs hx
  have hcs := s_cases vb xs hx
  obtain ⟨_, A, c, rfl, -⟩ := hr
  clear hx
  rcases hcu with ⟨a, ha0, ha1, hab, hcu⟩ | ⟨eu, hu1, hu2, hcu⟩
  · have HU := Lib.hid (And.intro hab hcu)
    clear hab hcu
    rcases hcs with ⟨b, hb, hbb, hcs⟩ | ⟨es, hs1, hs2, hcs⟩
    · have HS := Lib.hid (And.intro hbb hcs)
      clear hbb hcs
      go_enter Try.func10, Try.ntmps10
      go_wp2_with fail
      refine (awake2_calls H.out).mono ?_
      rintro e w1 ⟨rfl, h2⟩
      have HR1 := Lib.hid (HR.out.1.below h2.below)
      have H1 := Lib.hid h2
      clear h2 H
      go_wp2_with fail
      refine (HU.out.2 _ HR1.out).mono ?_
      rintro e w' ⟨rfl, rfl⟩
      go_wp2_with fail
      refine (HS.out.2 _ HR1.out).mono ?_
      rintro e w' ⟨rfl, rfl⟩
      go_wp2_with fail
      refine (unsigned_calls a ha0 ha1 H1.out).mono ?_
      rintro e w2 ⟨v2, rfl, h2⟩
      rw [HU.out.1] at h2
      have HR2 := Lib.hid (HR.out.1.below h2.below)
      have H2 := Lib.hid h2
      clear h2 H1 HR1
      go_wp2_with fail
      refine (same2_eq v2 _ xs _ H2.out.reads HR2.out).mono ?_
      rintro e w' ⟨rfl, rfl⟩
      go_wp2_with fail
      refine (signed_calls b hb.1 hb.2 H2.out).mono ?_
      rintro e w3 ⟨v3, rfl, h2⟩
      rw [HS.out.1] at h2
      have HR3 := Lib.hid (HR.out.1.below h2.below)
      have H3 := Lib.hid h2
      clear h2 H2 HR2
      go_wp2_with fail
      refine (same2_eq v3 _ xs _ H3.out.reads HR3.out).mono ?_
      rintro e w' ⟨rfl, rfl⟩
      go_wp2_with fail
      go_ret
      exact ⟨rfl, H3.out.below⟩
    · have HS := Lib.hid hcs
      clear hcs
      go_enter Try.func10, Try.ntmps10
      go_wp2_with fail
      refine (awake2_calls H.out).mono ?_
      rintro e w1 ⟨rfl, h2⟩
      have HR1 := Lib.hid (HR.out.1.below h2.below)
      have H1 := Lib.hid h2
      clear h2 H
      go_wp2_with fail
      refine (HU.out.2 _ HR1.out).mono ?_
      rintro e w' ⟨rfl, rfl⟩
      go_wp2_with fail
      refine (HS.out _ HR1.out).mono ?_
      rintro e w' ⟨rfl, rfl⟩
      go_wp2_with fail
      refine (unsigned_calls a ha0 ha1 H1.out).mono ?_
      rintro e w2 ⟨v2, rfl, h2⟩
      rw [HU.out.1] at h2
      have HR2 := Lib.hid (HR.out.1.below h2.below)
      have H2 := Lib.hid h2
      clear h2 H1 HR1
      go_wp2_with fail
      refine (same2_eq v2 _ xs _ H2.out.reads HR2.out).mono ?_
      rintro e w' ⟨rfl, rfl⟩
      go_wp2_with fail
      go_ret
      exact ⟨rfl, H2.out.below⟩
  · have HU := Lib.hid hcu
    clear hcu
    rcases hcs with ⟨b, hb, hbb, hcs⟩ | ⟨es, hs1, hs2, hcs⟩
    · have HS := Lib.hid (And.intro hbb hcs)
      clear hbb hcs
      go_enter Try.func10, Try.ntmps10
      go_wp2_with fail
      refine (awake2_calls H.out).mono ?_
      rintro e w1 ⟨rfl, h2⟩
      have HR1 := Lib.hid (HR.out.1.below h2.below)
      have H1 := Lib.hid h2
      clear h2 H
      go_wp2_with fail
      refine (HU.out _ HR1.out).mono ?_
      rintro e w' ⟨rfl, rfl⟩
      go_wp2_with fail
      refine (HS.out.2 _ HR1.out).mono ?_
      rintro e w' ⟨rfl, rfl⟩
      go_wp2_with fail
      refine (signed_calls b hb.1 hb.2 H1.out).mono ?_
      rintro e w3 ⟨v3, rfl, h2⟩
      rw [HS.out.1] at h2
      have HR3 := Lib.hid (HR.out.1.below h2.below)
      have H3 := Lib.hid h2
      clear h2 H1 HR1
      go_wp2_with fail
      refine (same2_eq v3 _ xs _ H3.out.reads HR3.out).mono ?_
      rintro e w' ⟨rfl, rfl⟩
      go_wp2_with fail
      go_ret
      exact ⟨rfl, H3.out.below⟩
    · have HS := Lib.hid hcs
      clear hcs
      go_enter Try.func10, Try.ntmps10
      go_wp2_with fail
      refine (awake2_calls H.out).mono ?_
      rintro e w1 ⟨rfl, h2⟩
      have HR1 := Lib.hid (HR.out.1.below h2.below)
      have H1 := Lib.hid h2
      clear h2 H
      go_wp2_with fail
      refine (HU.out _ HR1.out).mono ?_
      rintro e w' ⟨rfl, rfl⟩
      go_wp2_with fail
      refine (HS.out _ HR1.out).mono ?_
      rintro e w' ⟨rfl, rfl⟩
      go_wp2_with fail
      go_ret
      exact ⟨rfl, H1.out.below⟩
end Go.Proofs.Ytomjgjdnlbpleaa.Oct
