/- What reading tells: plain lists of bits, no program. -/
import Derived.Test.YtomjgjdnlbpleaaBits
import Derived.Test.YtomjgjdnlbpleaaNum
namespace Go.Proofs.Ytomjgjdnlbpleaa.Bits

def getE (L : List Bool) (p : Nat) (w : Int) : Int := if w < 0 ∨ 64 < w then 1 else if (L.length : Int) - p < w then 2 else 0
def getV (L : List Bool) (p : Nat) (w : Int) : Int := if getE L p w = 0 then getB ((L.drop p).take w.toNat) else 0
def getP (L : List Bool) (p : Nat) (w : Int) : Nat := if getE L p w = 0 then p + w.toNat else p
theorem getE_zero {L : List Bool} {p : Nat} {w : Int} (h : getE L p w = 0) : 0 ≤ w ∧ w ≤ 64 ∧ w ≤ (L.length : Int) - p := by
  unfold getE at h
  by_cases h1 : w < 0 ∨ 64 < w
  · rw [if_pos h1] at h; cases h
  · rw [if_neg h1] at h
    by_cases h2 : (L.length : Int) - p < w
    · rw [if_pos h2] at h; cases h
    · omega
theorem getE_of {L : List Bool} {p : Nat} {w : Int} (h0 : 0 ≤ w) (h1 : w ≤ 64) (h2 : w ≤ (L.length : Int) - p) : getE L p w = 0 := by
  unfold getE
  rw [if_neg (by omega), if_neg (by omega)]
theorem getP_le (L : List Bool) (p : Nat) (w : Int) (h : p ≤ L.length) : getP L p w ≤ L.length := by
  by_cases h2 : getE L p w = 0
  · have := getE_zero h2; rw [getP, if_pos h2]; omega
  · rw [getP, if_neg h2]; exact h
theorem getP_le65 (L : List Bool) (p : Nat) (w : Int) : getP L p w ≤ p + 64 := by
  by_cases h2 : getE L p w = 0
  · have := getE_zero h2; rw [getP, if_pos h2]; omega
  · rw [getP, if_neg h2]; omega

def upTo8 (p : Nat) : Nat := (p + 7) / 8 * 8
def anyB (L : List Bool) (p q : Nat) : Bool := ((L.drop p).take (q - p)).any id
def alignE (L : List Bool) (p : Nat) : Int := if anyB L p (upTo8 p) = true then 3 else 0
def alignP (L : List Bool) (p : Nat) : Nat := if alignE L p = 0 then upTo8 p else p
theorem upTo8_le (L : List Bool) (p : Nat) (h8 : L.length % 8 = 0) (h : p ≤ L.length) : upTo8 p ≤ L.length := by unfold upTo8; omega
theorem alignP_le (L : List Bool) (p : Nat) (h8 : L.length % 8 = 0) (h : p ≤ L.length) : alignP L p ≤ L.length := by
  unfold alignP
  split
  · exact upTo8_le L p h8 h
  · exact h
theorem anyB_true (L : List Bool) (p q k : Nat) (h1 : p ≤ k) (h2 : k < q) (h3 : L[k]? = some true) : anyB L p q = true := by
  unfold anyB
  rw [List.any_eq_true]
  refine ⟨true, ?_, rfl⟩
  rw [List.mem_iff_getElem?]
  refine ⟨k - p, ?_⟩
  rw [List.getElem?_take, if_pos (by omega), List.getElem?_drop, show p + (k - p) = k from by omega, h3]
theorem anyB_false (L : List Bool) (p q : Nat) (h : ∀ k, p ≤ k → k < q → L[k]? ≠ some true) : anyB L p q = false := by
  unfold anyB
  rw [List.any_eq_false]
  intro x hx
  rw [List.mem_iff_getElem?] at hx
  obtain ⟨i, hi⟩ := hx
  rw [List.getElem?_take] at hi
  split at hi
  · rw [List.getElem?_drop] at hi
    have := h (p + i) (by omega) (by omega)
    cases x
    · simp
    · exact absurd hi this
  · cases hi

def octE (L : List Bool) (p : Nat) (n : Int) : Int := if n < 0 then 1 else if (((L.length - p) / 8 : Nat) : Int) < n then 2 else 0
def octL (L : List Bool) (p n : Nat) : List Int := (List.range n).map fun i => getB ((L.drop (p + 8 * i)).take 8)
def octV (L : List Bool) (p : Nat) (n : Int) : List Int := if octE L p n = 0 then octL L p n.toNat else []
def octP (L : List Bool) (p : Nat) (n : Int) : Nat := if octE L p n = 0 then p + 8 * n.toNat else p
theorem octE_zero {L : List Bool} {p : Nat} {n : Int} (h : octE L p n = 0) : 0 ≤ n ∧ n ≤ ((L.length - p) / 8 : Nat) := by
  unfold octE at h
  by_cases h1 : n < 0
  · rw [if_pos h1] at h; cases h
  · rw [if_neg h1] at h
    by_cases h2 : (((L.length - p) / 8 : Nat) : Int) < n
    · rw [if_pos h2] at h; cases h
    · omega
theorem octE_of {L : List Bool} {p : Nat} {n : Int} (h0 : 0 ≤ n) (h1 : n ≤ ((L.length - p) / 8 : Nat)) : octE L p n = 0 := by
  unfold octE
  rw [if_neg (by omega), if_neg (by omega)]
theorem octP_le (L : List Bool) (p : Nat) (n : Int) (h : p ≤ L.length) : octP L p n ≤ L.length := by
  by_cases h2 : octE L p n = 0
  · have := octE_zero h2; rw [octP, if_pos h2]; omega
  · rw [octP, if_neg h2]; exact h
theorem octL_succ (L : List Bool) (p n : Nat) : octL L p (n + 1) = octL L p n ++ [getB ((L.drop (p + 8 * n)).take 8)] := by simp [octL, List.range_succ]
theorem octL_length (L : List Bool) (p n : Nat) : (octL L p n).length = n := by simp [octL]
theorem octL_range (L : List Bool) (p n : Nat) : ∀ x ∈ octL L p n, 0 ≤ x ∧ x < 256 := by
  intro x hx
  simp only [octL, List.mem_map] at hx
  obtain ⟨i, _, rfl⟩ := hx
  have h := getB_range ((L.drop (p + 8 * i)).take 8)
  have hl : ((L.drop (p + 8 * i)).take 8).length ≤ 8 := List.length_take_le _ _
  have hp : (2 : Int) ^ ((L.drop (p + 8 * i)).take 8).length ≤ 2 ^ 8 := by
    have := Nat.pow_le_pow_right (show 0 < 2 by decide) hl
    exact_mod_cast this
  have : (2 : Int) ^ 8 = 256 := by decide
  omega
theorem octV_range (L : List Bool) (p : Nat) (n : Int) : ∀ x ∈ octV L p n, 0 ≤ x ∧ x < 256 := by
  unfold octV
  split
  · exact octL_range _ _ _
  · intro x hx; cases hx
def endE (L : List Bool) (p : Nat) : Int := if p = 0 ∧ L = putB 0 8 then 0 else if p = 0 ∨ 8 ≤ L.length - p then 3 else alignE L p

/-! ### Octets as bits, bit by bit -/
theorem unpack_at (bs : List Int) (k : Nat) (x : Int) (hx : bs[k / 8]? = some x) : (unpack bs)[k]? = some (decide (x / 2 ^ (7 - k % 8) % 2 = 1)) := by
  have hk := (List.getElem?_eq_some_iff.1 hx).1
  rw [unpack_get bs k (by omega), List.getD, hx]
  rfl
theorem take_bit (L : List Bool) (p k : Nat) (b : Bool) (h : L[p + k]? = some b) : getB ((L.drop p).take (k + 1)) = 2 * getB ((L.drop p).take k) + b2i b := by
  have h2 : (L.drop p)[k]? = some b := by rw [List.getElem?_drop]; exact h
  have hk := (List.getElem?_eq_some_iff.1 h2).1
  rw [List.take_succ_eq_append_getElem hk, getB_snoc]
  congr 2
  simpa [List.getElem?_eq_getElem hk] using h2
theorem getB_take_range (L : List Bool) (p k : Nat) (hk : k ≤ 63) : 0 ≤ getB ((L.drop p).take k) ∧ getB ((L.drop p).take k) * 2 < 18446744073709551616 - 1 := by
  have h := getB_range ((L.drop p).take k)
  have hl : ((L.drop p).take k).length ≤ 63 := by rw [List.length_take]; omega
  have hp : (2 : Int) ^ ((L.drop p).take k).length ≤ 2 ^ 63 := by
    have := Nat.pow_le_pow_right (show 0 < 2 by decide) hl
    exact_mod_cast this
  have : (2 : Int) ^ 63 = 9223372036854775808 := by decide
  omega
theorem or_one (a x : Int) (ha : a % 2 = 0) (h0 : 0 ≤ a) (h1 : a < 18446744073709551616) (hx0 : 0 ≤ x) (hx1 : x < 2) : Go.bits .or .u64 a x = a + x := by
  refine bits_join .u64 64 (by decide) Num.wraps_u64 1 a x h0 ha h1 hx0 hx1 (by omega)
theorem bit_u8 (x : Int) (h0 : 0 ≤ x) (h1 : x < 256) (r : Nat) : Go.bits .and .u8 (x / 2 ^ r) 1 = b2i (decide (x / 2 ^ r % 2 = 1)) := by
  have hp : (0 : Int) < 2 ^ r := Int.pow_pos (by decide)
  have h2 := Int.ediv_nonneg h0 (Int.le_of_lt hp)
  have h3 : x / 2 ^ r < 256 := Int.lt_of_le_of_lt (Int.ediv_le_self _ h0) h1
  have e : Go.bits .and .u8 (x / 2 ^ r) 1 = x / 2 ^ r % 2 := bits_mask .u8 8 (by decide) wraps_u8 1 (by decide) _ h2 h3
  rw [e, Num.b2i_odd]
end Go.Proofs.Ytomjgjdnlbpleaa.Bits
