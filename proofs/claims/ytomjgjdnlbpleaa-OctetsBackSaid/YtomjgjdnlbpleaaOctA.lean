/- The walks of layer 2: numbers written as octets. -/
import Derived.Test.YtomjgjdnlbpleaaStrmW
import Derived.Test.YtomjgjdnlbpleaaOctM
import Derived.Test.YtomjgjdnlbpleaaShelf
namespace Go.Proofs.Ytomjgjdnlbpleaa.Oct
open Go.RowKit Go.Proofs.Ytomjgjdnlbpleaa.Sep Go.Proofs.Ytomjgjdnlbpleaa.Stream
variable {B : Nat} {w0 w : World} {R : HP}

theorem ret_int {k : IntKind} {a b : Int} (h : a = b) : Ending.returned (.int k a) = .returned (.int k b) := by rw [h]

theorem width_calls (v : Int) (w : World) (h0 : 0 ≤ v) (h1 : v < 18446744073709551616) :
    Calls Try.prog 27 #[.int .u64 v] w fun e w' => e = .returned (.int .i64 (Lib.bitLen v.toNat)) ∧ w = w' := by
  go_enter Try.func27, Try.ntmps27
  go_wp2_with (go_at_call 53; refine (Try.bits_Len64 v _ h0 (by omega)).mono ?_; rintro e w' ⟨rfl, rfl⟩)
  go_ret
  exact ⟨rfl, rfl⟩

theorem count_calls (v : Int) (w : World) (h0 : 0 ≤ v) (h1 : v < 18446744073709551616) :
    Calls Try.prog 29 #[.int .u64 v] w fun e w' => e = .returned (.int .i64 (ucount v)) ∧ w = w' := by
  go_enter Try.func29, Try.ntmps29
  go_wp2_with fail
  refine (width_calls v _ h0 h1).mono ?_
  rintro e w' ⟨rfl, rfl⟩
  have hb := bitLen_le64 v.toNat (by omega)
  have hu : ucount v = max 1 ((Lib.bitLen v.toNat + 7) / 8) := rfl
  generalize Lib.bitLen v.toNat = b at hb hu ⊢
  have HU := Lib.hid hu
  clear hu
  go_wp2_with fail
  go_ret
  refine ⟨?_, rfl⟩
  rw [HU.out]
  exact ret_int (by omega)

/-- The row with some more behind it. -/
theorem with_calls (v src : Value) (xs news : List Int) (h : St B w0 w (Row8 v xs • R)) (hr : Reads8 w src news) (hb : xs.length + news.length ≤ 70368744177664) :
    Calls Try.prog 54 #[v, src] w fun e w' => ∃ v', e = .returned v' ∧ St B w0 w' (Row8 v' (xs ++ news) • R) := by
  have H := Lib.hid (And.intro h hr)
  clear h hr
  go_enter Try.func54, Try.ntmps54
  go_wp2_with (at_builtin; refine append8 rfl _ _ rfl v src xs news rfl H.out.1 rfl H.out.2 hb ?_; intro v' w1 h2; have H2 := Lib.hid h2; clear h2)
  go_ret
  exact ⟨_, rfl, H2.out⟩

theorem unsigned_calls (v : Int) (h0 : 0 ≤ v) (h1 : v < 18446744073709551616) (h : St B w0 w R) :
    Calls Try.prog 32 #[.int .u64 v] w fun e w' => ∃ v', e = .returned v' ∧ St B w0 w' (Row8 v' (bytesBE v (ucount v)) • R) := by
  have HS := Lib.hid h
  have hr := ucount_range v h1
  clear h
  go_enter Try.func32, Try.ntmps32
  go_wp2_with fail
  refine (count_calls v _ h0 h1).mono ?_
  rintro e w' ⟨rfl, rfl⟩
  generalize hn : ucount v = n at hr ⊢
  have HN := Lib.hid hn
  clear hn
  obtain ⟨hr1, hr2⟩ := hr
  go_wp2_with fail
  go_loopw [3, 4] (fun vb i wr => ∃ i0 : Int, -1 ≤ i0 ∧ i0 ≤ n - 1 ∧ i = .int .i64 i0 ∧ Hid (St B w0 wr (Row8 vb (bytesBE (v / 2 ^ (8 * (i0 + 1).toNat)) (n - 1 - i0).toNat) • R))) (fun _ i _ => (intOf i + 1).toNat)
  case atStart =>
    refine ⟨n - 1, by omega, by omega, rfl, Lib.hid ?_⟩
    have e : ((n : Int) - 1 - (n - 1)).toNat = 0 := by omega
    rw [e]
    exact HS.out.nil _ _
  case round =>
    clear HS
    obtain ⟨i0, hi0, hi1, rfl, H3⟩ := hrel
    by_cases hlt : 0 ≤ i0
    · obtain ⟨j, rfl⟩ := Int.eq_ofNat_of_zero_le hlt
      have e1 : ((j : Int) + 1).toNat = j + 1 := by omega
      have e2 : ((n : Int) - 1 - j).toNat = n - 1 - j := by omega
      rw [e1, e2] at H3
      clear e1 e2
      have hj : j < n := by omega
      have hsh : min (8 * (j : Int)).toNat 64 = 8 * j := by omega
      go_wp2_with fail
      refine (with_calls u3 _ _ [v / 2 ^ (8 * j) % 256] (H3.out.alloc _).two (St.blkReads (H3.out.alloc _) rfl rfl rfl (by simp)) (by rw [bytesBE_length, List.length_singleton]; omega)).mono ?_
      rintro e w2 ⟨v', rfl, h4⟩
      rw [bytesBE_down v n j hj] at h4
      have H4 := Lib.hid h4.two.drop
      clear h4 H3
      go_wp2_with fail
      refine ⟨⟨(j : Int) - 1, by omega, by omega, by go_num, Lib.hid ?_⟩, by simp [intOf]⟩
      have e1 : ((j : Int) - 1 + 1).toNat = j := by omega
      have e2 : ((n : Int) - 1 - (j - 1)).toNat = n - j := by omega
      rw [e1, e2]
      exact H4.out
    · go_wp2
      go_ret
      refine ⟨_, rfl, ?_⟩
      have e : i0 = -1 := by omega
      have h5 := H3.out
      rw [e] at h5
      have e2 : ((n : Int) - 1 - -1).toNat = n := by omega
      rw [e2] at h5
      rw [HN.out]
      simpa using h5

/-! ### The reference -/
theorem bitLen_step (x : Nat) (h0 : 0 < x) (h : x < 2 ^ 64) : Lib.bitLen x = Lib.bitLen (x / 2) + 1 := by
  rw [Lib.bitLen_half x (by omega) h]; omega
theorem rwidth_calls (v : Int) (w : World) (h0 : 0 ≤ v) (h1 : v < 18446744073709551616) :
    Calls Try.prog 28 #[.int .u64 v] w fun e w' => e = .returned (.int .i64 (Lib.bitLen v.toNat)) ∧ w = w' := by
  have hb := bitLen_le64 v.toNat (by omega)
  obtain ⟨N, hN⟩ : ∃ N, N = Lib.bitLen v.toNat := ⟨_, rfl⟩
  rw [← hN] at hb ⊢
  have HN := Lib.hid hN
  clear hN
  go_enter Try.func28, Try.ntmps28
  go_wp2
  go_loop [0, 3] (fun x i => ∃ (y : Int) (k : Nat), 0 ≤ y ∧ y < 18446744073709551616 ∧ x = .int .u64 y ∧ i = .int .i64 k ∧ k ≤ N ∧ Hid (Lib.bitLen y.toNat + k = N)) (fun x _ => (intOf x).toNat)
  case atStart => exact ⟨v, 0, h0, h1, rfl, rfl, Nat.zero_le _, Lib.hid HN.out.symm⟩
  case round =>
    clear h0 h1 HN
    obtain ⟨y, k, h0, h1, rfl, rfl, hk, HY⟩ := hrel
    by_cases hy : 0 < y
    · have hst := bitLen_step y.toNat (by omega) (by omega)
      have hy2 : (y / 2).toNat = y.toNat / 2 := by omega
      have HX : Hid (Lib.bitLen (y / 2).toNat + (k + 1) = N) := Lib.hid (by rw [hy2]; have := HY.out; omega)
      have hk2 : k + 1 ≤ N := by have := HX.out; omega
      have hkN : k + 1 ≤ 64 := by omega
      clear hst hy2 HY
      go_wp2
      exact ⟨⟨y / 2, k + 1, by omega, by omega, rfl, by go_num, hk2, HX⟩, by simp only [intOf]; omega⟩
    · go_wp2
      go_ret
      refine ⟨ret_int ?_, rfl⟩
      have := HY.out
      have e : y.toNat = 0 := by omega
      rw [e, bitLen_zero] at this
      omega

theorem rcount_calls (v : Int) (w : World) (h0 : 0 ≤ v) (h1 : v < 18446744073709551616) :
    Calls Try.prog 30 #[.int .u64 v] w fun e w' => e = .returned (.int .i64 (ucount v)) ∧ w = w' := by
  go_enter Try.func30, Try.ntmps30
  go_wp2_with fail
  refine (rwidth_calls v _ h0 h1).mono ?_
  rintro e w' ⟨rfl, rfl⟩
  have hb := bitLen_le64 v.toNat (by omega)
  have hu : ucount v = max 1 ((Lib.bitLen v.toNat + 7) / 8) := rfl
  generalize Lib.bitLen v.toNat = b at hb hu ⊢
  have HU := Lib.hid hu
  clear hu
  go_wp2_with fail
  go_ret
  refine ⟨?_, rfl⟩
  rw [HU.out]
  exact ret_int (by omega)

theorem low_calls (v : Int) (n : Nat) (hn : n ≤ 8) (h : St B w0 w R) :
    Calls Try.prog 55 #[.int .u64 v, .int .i64 n] w fun e w' => ∃ v', e = .returned v' ∧ St B w0 w' (Row8 v' (bytesBE v n) • R) := by
  have HS := Lib.hid h
  clear h
  go_enter Try.func55, Try.ntmps55
  go_wp2_with fail
  go_loopw [5, 6] (fun vb i wr => ∃ i0 : Int, -1 ≤ i0 ∧ i0 ≤ n - 1 ∧ i = .int .i64 i0 ∧ Hid (St B w0 wr (Row8 vb (bytesBE (v / 2 ^ (8 * (i0 + 1).toNat)) (n - 1 - i0).toNat) • R))) (fun _ i _ => (intOf i + 1).toNat)
  case atStart =>
    refine ⟨n - 1, by omega, by omega, rfl, Lib.hid ?_⟩
    have e : ((n : Int) - 1 - (n - 1)).toNat = 0 := by omega
    rw [e]
    exact HS.out.nil _ _
  case round =>
    clear HS
    obtain ⟨i0, hi0, hi1, rfl, H3⟩ := hrel
    by_cases hlt : 0 ≤ i0
    · obtain ⟨j, rfl⟩ := Int.eq_ofNat_of_zero_le hlt
      have e1 : ((j : Int) + 1).toNat = j + 1 := by omega
      have e2 : ((n : Int) - 1 - j).toNat = n - 1 - j := by omega
      rw [e1, e2] at H3
      clear e1 e2
      have hj : j < n := by omega
      have hsh : min (8 * (j : Int)).toNat 64 = 8 * j := by omega
      have hlen : (bytesBE (v / 2 ^ (8 * (j + 1))) (n - 1 - j)).length + 1 ≤ 70368744177664 := by rw [bytesBE_length]; omega
      have HL := Lib.hid hlen
      clear hlen
      have hst := bytesBE_down v n j hj
      generalize bytesBE (v / 2 ^ (8 * (j + 1))) (n - 1 - j) = ys at H3 HL hst
      have HD := Lib.hid hst
      clear hst
      go_wp2_with (at_builtin; refine append8 rfl _ _ rfl u5 _ ys [v / 2 ^ (8 * j) % 256] rfl (H3.out.alloc _).two rfl (St.blkReads (H3.out.alloc _) rfl rfl rfl (by simp)) HL.out ?_; intro v' w2 h4; rw [HD.out] at h4; have H4 := Lib.hid h4.two.drop; clear h4)
      refine ⟨⟨(j : Int) - 1, by omega, by omega, by go_num, Lib.hid ?_⟩, by simp [intOf]⟩
      have e1 : ((j : Int) - 1 + 1).toNat = j := by omega
      have e2 : ((n : Int) - 1 - (j - 1)).toNat = n - j := by omega
      rw [e1, e2]
      exact H4.out
    · go_wp2
      go_ret
      refine ⟨_, rfl, ?_⟩
      have e : i0 = -1 := by omega
      have h5 := H3.out
      rw [e] at h5
      have e2 : ((n : Int) - 1 - -1).toNat = n := by omega
      rw [e2] at h5
      simpa using h5

theorem runsigned_calls (v : Int) (h0 : 0 ≤ v) (h1 : v < 18446744073709551616) (h : St B w0 w R) :
    Calls Try.prog 33 #[.int .u64 v] w fun e w' => ∃ v', e = .returned v' ∧ St B w0 w' (Row8 v' (bytesBE v (ucount v)) • R) := by
  have HS := Lib.hid h
  have hr := ucount_range v h1
  clear h
  go_enter Try.func33, Try.ntmps33
  go_wp2_with fail
  refine (rcount_calls v _ h0 h1).mono ?_
  rintro e w' ⟨rfl, rfl⟩
  go_wp2_with fail
  refine (low_calls v _ hr.2 HS.out).mono ?_
  rintro e w2 ⟨v', rfl, h2⟩
  have H2 := Lib.hid h2
  clear h2 HS
  go_wp2_with fail
  go_ret
  exact ⟨_, rfl, H2.out⟩
end Go.Proofs.Ytomjgjdnlbpleaa.Oct
