/- Numbers: bit operations as arithmetic. -/
import Derived.WalkKit
import Derived.Laws.BitsLemmas
import Derived.Test.YtomjgjdnlbpleaaBits
namespace Go.Proofs.Ytomjgjdnlbpleaa.Num
open Go.Proofs.Ytomjgjdnlbpleaa.Bits
theorem wraps_u64 (n : Int) (h₀ : 0 ≤ n) (h₁ : n < 2 ^ 64) : IntKind.u64.wrap n = n := by
  have : IntKind.u64.wrap n = n % 18446744073709551616 := by simp [IntKind.wrap, IntKind.bits, IntKind.signed]
  rw [this]; omega
theorem u64_and1 (x : Int) (h0 : 0 ≤ x) (h1 : x < 18446744073709551616) : Go.bits .and .u64 x 1 = x % 2 := bits_mask .u64 64 (by decide) wraps_u64 1 (by decide) x h0 h1
theorem div_pow_range (v : Int) (h0 : 0 ≤ v) (h1 : v < 18446744073709551616) (n : Nat) : 0 ≤ v / 2 ^ n ∧ v / 2 ^ n < 18446744073709551616 := by
  have hp : (0 : Int) < 2 ^ n := Int.pow_pos (by decide)
  refine ⟨Int.ediv_nonneg h0 (Int.le_of_lt hp), Int.lt_of_le_of_lt (Int.ediv_le_self _ h0) h1⟩
theorem b2i_odd (x : Int) : b2i (decide (x % 2 = 1)) = x % 2 := by
  by_cases h : x % 2 = 1 <;> simp [b2i, h] <;> omega
/-- One bit of a number, as the code computes it. -/
theorem bit_u64 (v : Int) (h0 : 0 ≤ v) (h1 : v < 18446744073709551616) (n : Nat) : Go.bits .and .u64 (v / 2 ^ n) 1 % 256 = b2i (decide (v / 2 ^ n % 2 = 1)) := by
  obtain ⟨h2, h3⟩ := div_pow_range v h0 h1 n
  rw [u64_and1 _ h2 h3, b2i_odd]
  omega
/-- A bit laid into an octet. -/
theorem or_bit (o : Int) (b : Bool) (r : Nat) (hr : r < 8) (h0 : 0 ≤ o) (h1 : o < 256) (hl : o % 2 ^ (8 - r) = 0) : Go.bits .or .u8 o (b2i b * 2 ^ (7 - r) % 256) = o + b2i b * 2 ^ (7 - r) := by
  have hb := b2i_01 b
  have hc : r = 0 ∨ r = 1 ∨ r = 2 ∨ r = 3 ∨ r = 4 ∨ r = 5 ∨ r = 6 ∨ r = 7 := by omega
  have hm : b2i b * 2 ^ (7 - r) % 256 = b2i b * 2 ^ (7 - r) := by
    rcases hc with rfl | rfl | rfl | rfl | rfl | rfl | rfl | rfl <;> simp <;> omega
  rw [hm]
  refine bits_join .u8 8 (by decide) wraps_u8 (8 - r) o _ h0 hl h1 ?_ ?_ ?_ <;>
    rcases hc with rfl | rfl | rfl | rfl | rfl | rfl | rfl | rfl <;> simp <;> omega
theorem putB_shift (v : Int) (n k : Nat) (hk : k < n) : putB (v / 2 ^ (n - k)) k ++ [decide (v / 2 ^ (n - 1 - k) % 2 = 1)] = putB (v / 2 ^ (n - (k + 1))) (k + 1) := by
  rw [putB]
  have e : n - (k + 1) = n - 1 - k := by omega
  have e2 : n - k = n - 1 - k + 1 := by omega
  rw [e, e2, Int.pow_succ, ← Int.ediv_ediv_of_nonneg (Int.le_of_lt (Int.pow_pos (by decide)))]
end Go.Proofs.Ytomjgjdnlbpleaa.Num
