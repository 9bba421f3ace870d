/- The walks of layer 2: the reference's Signed; numbers read out of octets. -/
import Derived.Test.YtomjgjdnlbpleaaOctB
import Derived.Test.YtomjgjdnlbpleaaOpen
namespace Go.Proofs.Ytomjgjdnlbpleaa.Oct
open Go.RowKit Go.Proofs.Ytomjgjdnlbpleaa.Sep Go.Proofs.Ytomjgjdnlbpleaa.Stream
variable {B : Nat} {w0 w : World} {R : HP}

theorem div_sign (n : Int) (m : Nat) (h : 1 ≤ m) : n / 2 ^ (8 * m - 1) = n / 2 ^ (8 * (m - 1)) / 128 := by
  have e : 8 * m - 1 = 8 * (m - 1) + 7 := by omega
  rw [e, Int.pow_add, ← Int.ediv_ediv_of_nonneg (Int.le_of_lt (pow8_pos (m - 1)))]
  rfl
theorem bytesBE_u64 (n : Int) (k : Nat) (h : k ≤ 8) : bytesBE (n % 18446744073709551616) k = bytesBE n k := bytesBE_mod n k 8 h

set_option maxHeartbeats 400000 in
theorem rsigned_calls (n : Int) (h0 : -9223372036854775808 ≤ n) (h1 : n ≤ 9223372036854775807) (h : St B w0 w R) :
    Calls Try.prog 35 #[.int .i64 n] w fun e w' => ∃ v', e = .returned v' ∧ St B w0 w' (Row8 v' (bytesBE n (scount n)) • R) := by
  have HS := Lib.hid h
  clear h
  go_enter Try.func35, Try.ntmps35
  go_wp2_with fail
  go_loop [3] (fun x => ∃ m : Nat, 1 ≤ m ∧ m ≤ 8 ∧ x = .int .i64 m ∧ Hid (scount n = (m - 1) + scnt (8 - m) (n / 2 ^ (8 * (m - 1))))) (fun x => 8 - (intOf x).toNat)
  case atStart => exact ⟨1, by omega, by omega, rfl, Lib.hid (by simp [scount])⟩
  case round =>
    obtain ⟨m, hm1, hm8, rfl, H3⟩ := hrel
    have hsh : min (8 * (m : Int) - 1).toNat 64 = 8 * m - 1 := by omega
    have hd := div_sign n m hm1
    generalize hy : n / 2 ^ (8 * m - 1) = y at hd
    have HY := Lib.hid hy
    have HD := Lib.hid hd
    clear hy hd
    have hlow : (m < 8 → n / 2 ^ (8 * m - 1) = 0 ∨ n / 2 ^ (8 * m - 1) = -1) → ∀ (W : World), St B w0 W R → Calls Try.prog 55 #[.int .u64 (IntKind.u64.wrap n), .int .i64 m] W fun e w' => ∃ v', e = .returned v' ∧ St B w0 w' (Row8 v' (bytesBE n (scount n)) • R) := by
      intro hy W hW
      have hsc : scount n = m := by
        have h6 := H3.out
        by_cases hm : m < 8
        · have := hy hm
          rw [HY.out, HD.out] at this
          rw [scnt_yes _ _ this] at h6
          omega
        · have e : 8 - m = 0 := by omega
          rw [e] at h6
          simp only [scnt] at h6
          omega
      rw [hsc, ← bytesBE_u64 n m hm8]
      have hw : IntKind.u64.wrap n = n % 18446744073709551616 := by simp [IntKind.wrap, IntKind.bits, IntKind.signed]
      rw [hw]
      exact low_calls _ _ hm8 hW
    have HL := Lib.hid hlow
    clear hlow
    by_cases hm : m < 8
    · by_cases hz : y = 0
      · have t1 : (n / 2 ^ (8 * m - 1) != 0) = false := by rw [bne_eq_false_iff_eq, HY.out]; exact hz
        have HC := Lib.hid (HL.out fun _ => .inl (by rw [HY.out]; exact hz))
        go_wp2_with (go_at_call 55; refine (HC.out _ HS.out).mono ?_; rintro e w2 ⟨v', rfl, h4⟩; have H4 := Lib.hid h4; clear h4)
        go_ret
        exact ⟨_, rfl, H4.out⟩
      · have t1 : (n / 2 ^ (8 * m - 1) != 0) = true := by rw [bne_iff_ne, HY.out]; exact hz
        by_cases hz2 : y = -1
        · have t2 : (n / 2 ^ (8 * m - 1) != -1) = false := by rw [bne_eq_false_iff_eq, HY.out]; exact hz2
          have HC := Lib.hid (HL.out fun _ => .inr (by rw [HY.out]; exact hz2))
          clear hz hz2
          go_wp2_with (go_at_call 55; refine (HC.out _ HS.out).mono ?_; rintro e w2 ⟨v', rfl, h4⟩; have H4 := Lib.hid h4; clear h4)
          go_ret
          exact ⟨_, rfl, H4.out⟩
        · have t2 : (n / 2 ^ (8 * m - 1) != -1) = true := by rw [bne_iff_ne, HY.out]; exact hz2
          have h6 := H3.out
          have hno : ¬ (n / 2 ^ (8 * (m - 1)) / 128 = 0 ∨ n / 2 ^ (8 * (m - 1)) / 128 = -1) := by rw [← HD.out]; omega
          obtain ⟨_, h7⟩ := scount_last n (m - 1) (by omega) ⟨h0, h1⟩ (by rw [show 7 - (m - 1) = 8 - m from by omega]; exact h6) hno
          rw [show m - 1 + 1 = (m + 1) - 1 from by omega, show 7 - ((m + 1) - 1) = 8 - (m + 1) from by omega] at h7
          have H7 := Lib.hid h7
          clear hz hz2 hno h7 h6
          go_wp2
          exact ⟨⟨m + 1, by omega, by omega, by go_num, H7⟩, by simp only [intOf]; omega⟩
    · have HC := Lib.hid (HL.out fun h => absurd h hm)
      go_wp2_with (go_at_call 55; refine (HC.out _ HS.out).mono ?_; rintro e w2 ⟨v', rfl, h4⟩; have H4 := Lib.hid h4; clear h4)
      go_ret
      exact ⟨_, rfl, H4.out⟩
end Go.Proofs.Ytomjgjdnlbpleaa.Oct
