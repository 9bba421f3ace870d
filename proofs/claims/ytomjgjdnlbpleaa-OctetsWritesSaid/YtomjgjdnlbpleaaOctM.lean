/- Whole numbers as octets: plain lists, no program. -/
import Derived.Lib.BitFns
import Derived.Lib.ItoaNum
import Derived.Laws.BitsLemmas
import Derived.RowKit
import Derived.WalkKit
namespace Go.Proofs.Ytomjgjdnlbpleaa.Oct

/-- So many octets of a number, the highest first. -/
def bytesBE : Int → Nat → List Int
  | _, 0 => []
  | v, n + 1 => bytesBE (v / 256) n ++ [v % 256]
theorem bytesBE_length (v : Int) (n : Nat) : (bytesBE v n).length = n := by
  induction n generalizing v with
  | zero => rfl
  | succ n ih => simp [bytesBE, ih]
theorem bytesBE_range (v : Int) (n : Nat) : ∀ x ∈ bytesBE v n, 0 ≤ x ∧ x < 256 := by
  induction n generalizing v with
  | zero => intro x hx; simp [bytesBE] at hx
  | succ n ih =>
    intro x hx
    rw [bytesBE, List.mem_append, List.mem_singleton] at hx
    rcases hx with hx | rfl
    · exact ih _ x hx
    · omega
theorem pow8_succ (j : Nat) : (2 : Int) ^ (8 * (j + 1)) = 2 ^ (8 * j) * 256 := by
  rw [Nat.mul_add, Int.pow_add]
  rfl
theorem pow8_pos (j : Nat) : (0 : Int) < 2 ^ (8 * j) := Int.pow_pos (by decide)
theorem div_pow8_succ (v : Int) (j : Nat) : v / 2 ^ (8 * (j + 1)) = v / 2 ^ (8 * j) / 256 := by
  rw [pow8_succ, Int.ediv_ediv_of_nonneg (Int.le_of_lt (pow8_pos j))]
theorem div_pow8_succ' (v : Int) (j : Nat) : v / 2 ^ (8 * (j + 1)) = v / 256 / 2 ^ (8 * j) := by
  rw [pow8_succ, Int.mul_comm, Int.ediv_ediv_of_nonneg (by decide)]
/-- The next octet of those that are written, the highest first. -/
theorem bytesBE_down (v : Int) (n j : Nat) (h : j < n) : bytesBE (v / 2 ^ (8 * (j + 1))) (n - 1 - j) ++ [v / 2 ^ (8 * j) % 256] = bytesBE (v / 2 ^ (8 * j)) (n - j) := by
  have e : n - j = (n - 1 - j) + 1 := by omega
  rw [e, bytesBE, div_pow8_succ]
/-- So many octets of a number, the lowest first. -/
def lowsLE (v : Int) (n : Nat) : List Int := (bytesBE v n).reverse
theorem lowsLE_succ (v : Int) (n : Nat) : lowsLE v (n + 1) = lowsLE v n ++ [v / 2 ^ (8 * n) % 256] := by
  induction n generalizing v with
  | zero => simp [lowsLE, bytesBE]
  | succ n ih =>
    have h1 : lowsLE v (n + 1 + 1) = [v % 256] ++ lowsLE (v / 256) (n + 1) := by rw [lowsLE, bytesBE, List.reverse_append]; rfl
    have h2 : lowsLE v (n + 1) = [v % 256] ++ lowsLE (v / 256) n := by rw [lowsLE, bytesBE, List.reverse_append]; rfl
    rw [h1, ih, h2, div_pow8_succ', List.append_assoc]
theorem lowsLE_length (v : Int) (n : Nat) : (lowsLE v n).length = n := by rw [lowsLE, List.length_reverse, bytesBE_length]
theorem lowsLE_one (v : Int) : lowsLE v 1 = [v % 256] := by simp [lowsLE, bytesBE]

/-- Octets as a number. -/
def valB (l : List Int) : Int := l.foldl (fun a x => a * 256 + x) 0
theorem valB_snoc (l : List Int) (x : Int) : valB (l ++ [x]) = valB l * 256 + x := by simp [valB]
theorem snoc_ind {α : Type} {p : List α → Prop} (h0 : p []) (h1 : ∀ l b, p l → p (l ++ [b])) (l : List α) : p l := by
  have : ∀ n (l : List α), l.length = n → p l := by
    intro n
    induction n with
    | zero => intro l hl; rw [List.eq_nil_of_length_eq_zero hl]; exact h0
    | succ n ih =>
      intro l hl
      have hne : l ≠ [] := by intro e; subst e; simp at hl
      rw [← List.dropLast_concat_getLast hne]
      exact h1 _ _ (ih _ (by simp [hl]))
  exact this _ l rfl
theorem valB_range (l : List Int) (h : ∀ x ∈ l, 0 ≤ x ∧ x < 256) : 0 ≤ valB l ∧ valB l < 2 ^ (8 * l.length) := by
  induction l using snoc_ind with
  | h0 => simp [valB]
  | h1 l b ih =>
    have := ih fun x hx => h x (by simp [hx])
    have hb := h b (by simp)
    rw [valB_snoc, List.length_append, List.length_singleton, pow8_succ]
    omega
theorem valB_bytesBE (v : Int) (n : Nat) : valB (bytesBE v n) = v % 2 ^ (8 * n) := by
  induction n generalizing v with
  | zero => simp [bytesBE, valB, Int.emod_one]
  | succ n ih =>
    rw [bytesBE, valB_snoc, ih, pow8_succ]
    have hp := pow8_pos n
    have h1 := Int.emod_nonneg (v / 256) (Int.ne_of_gt hp)
    have h2 := Int.emod_lt_of_pos (v / 256) hp
    have h3 := Int.mul_ediv_add_emod (v / 256) (2 ^ (8 * n))
    have h4 : v = (v / 256 % 2 ^ (8 * n) * 256 + v % 256) + 2 ^ (8 * n) * 256 * (v / 256 / 2 ^ (8 * n)) := by
      have : 2 ^ (8 * n) * 256 * (v / 256 / 2 ^ (8 * n)) = 256 * (2 ^ (8 * n) * (v / 256 / 2 ^ (8 * n))) := by
        rw [Int.mul_comm (2 ^ (8 * n)) 256, Int.mul_assoc]
      omega
    conv => rhs; rw [h4, Int.add_mul_emod_self_left]
    exact (Int.emod_eq_of_lt (by omega) (by omega)).symm
theorem bytesBE_valB (l : List Int) (h : ∀ x ∈ l, 0 ≤ x ∧ x < 256) : bytesBE (valB l) l.length = l := by
  induction l using snoc_ind with
  | h0 => rfl
  | h1 l b ih =>
    have hb := h b (by simp)
    rw [valB_snoc, List.length_append, List.length_singleton, bytesBE]
    have e1 : (valB l * 256 + b) / 256 = valB l := by omega
    have e2 : (valB l * 256 + b) % 256 = b := by omega
    rw [e1, e2, ih fun x hx => h x (by simp [hx])]
theorem bytesBE_mod (v : Int) (n m : Nat) (h : n ≤ m) : bytesBE (v % 2 ^ (8 * m)) n = bytesBE v n := by
  induction n generalizing v m with
  | zero => rfl
  | succ n ih =>
    obtain ⟨m, rfl⟩ : ∃ k, m = k + 1 := ⟨m - 1, by omega⟩
    rw [bytesBE, bytesBE]
    have hp := pow8_pos m
    have e1 : v % 2 ^ (8 * (m + 1)) % 256 = v % 256 := by
      rw [pow8_succ, Int.mul_comm]
      exact Int.emod_emod_of_dvd _ ⟨2 ^ (8 * m), rfl⟩
    have e2 : v % 2 ^ (8 * (m + 1)) / 256 = v / 256 % 2 ^ (8 * m) := by
      rw [pow8_succ]
      have h1 := Int.emod_nonneg (v / 256) (Int.ne_of_gt hp)
      have h2 := Int.emod_lt_of_pos (v / 256) hp
      have h3 := Int.mul_ediv_add_emod (v / 256) (2 ^ (8 * m))
      have h4 : v = (v / 256 % 2 ^ (8 * m) * 256 + v % 256) + 2 ^ (8 * m) * 256 * (v / 256 / 2 ^ (8 * m)) := by
        have : 2 ^ (8 * m) * 256 * (v / 256 / 2 ^ (8 * m)) = 256 * (2 ^ (8 * m) * (v / 256 / 2 ^ (8 * m))) := by
          rw [Int.mul_comm (2 ^ (8 * m)) 256, Int.mul_assoc]
        omega
      have h5 : v % (2 ^ (8 * m) * 256) = v / 256 % 2 ^ (8 * m) * 256 + v % 256 := by
        conv => lhs; rw [h4, Int.add_mul_emod_self_left]
        exact Int.emod_eq_of_lt (by omega) (by omega)
      rw [h5]
      omega
    rw [e1, e2, ih _ _ (by omega)]
/-- The first octet. -/
theorem bytesBE_head (v : Int) (n : Nat) : bytesBE v (n + 1) = v / 2 ^ (8 * n) % 256 :: bytesBE v n := by
  have h := congrArg List.reverse (lowsLE_succ v n)
  simpa [lowsLE] using h

/-! ### How many octets -/
def ucount (v : Int) : Nat := max 1 ((Lib.bitLen v.toNat + 7) / 8)
theorem bitLen_bounds (x : Nat) (h : x < 2 ^ 64) (h0 : x ≠ 0) : 1 ≤ Lib.bitLen x ∧ 2 ^ (Lib.bitLen x - 1) ≤ x ∧ x < 2 ^ Lib.bitLen x := Lib.bitLenAux_bounds 64 x h h0
theorem bitLen_zero : Lib.bitLen 0 = 0 := Lib.bitLenAux_zero 64
theorem bitLen_lt (x : Nat) (h : x < 2 ^ 64) : x < 2 ^ Lib.bitLen x := by
  by_cases h0 : x = 0
  · subst h0; rw [bitLen_zero]; decide
  · exact (bitLen_bounds x h h0).2.2
theorem bitLen_le64 (x : Nat) (h : x < 2 ^ 64) : Lib.bitLen x ≤ 64 := Lib.bitLen_le x 64 (by decide) h
theorem ucount_range (v : Int) (h1 : v < 18446744073709551616) : 1 ≤ ucount v ∧ ucount v ≤ 8 := by
  have := bitLen_le64 v.toNat (by omega)
  unfold ucount
  omega
theorem ucount_lt (v : Int) (h0 : 0 ≤ v) (h1 : v < 18446744073709551616) : v < 2 ^ (8 * ucount v) := by
  have h2 := bitLen_lt v.toNat (by omega)
  have h3 : Lib.bitLen v.toNat ≤ 8 * ucount v := by unfold ucount; omega
  have h4 : (v.toNat : Nat) < 2 ^ (8 * ucount v) := Nat.lt_of_lt_of_le h2 (Nat.pow_le_pow_right (by decide) h3)
  have h5 : ((v.toNat : Nat) : Int) < ((2 ^ (8 * ucount v) : Nat) : Int) := Int.ofNat_lt.2 h4
  rw [Int.toNat_of_nonneg h0] at h5
  simpa using h5
theorem ucount_ge (v : Int) (h0 : 0 ≤ v) (h1 : v < 18446744073709551616) (h : 1 < ucount v) : 2 ^ (8 * (ucount v - 1)) ≤ v := by
  have hne : v.toNat ≠ 0 := by
    intro e
    unfold ucount at h
    rw [e, bitLen_zero] at h
    omega
  have h2 := (bitLen_bounds v.toNat (by omega) hne).2.1
  have h3 : 8 * (ucount v - 1) ≤ Lib.bitLen v.toNat - 1 := by unfold ucount at h ⊢; omega
  have h4 : 2 ^ (8 * (ucount v - 1)) ≤ v.toNat := Nat.le_trans (Nat.pow_le_pow_right (by decide) h3) h2
  have h5 : ((2 ^ (8 * (ucount v - 1)) : Nat) : Int) ≤ ((v.toNat : Nat) : Int) := Int.ofNat_le.2 h4
  rw [Int.toNat_of_nonneg h0] at h5
  simpa using h5
theorem pow_mono (a b : Nat) (h : a ≤ b) : (2 : Int) ^ a ≤ 2 ^ b := by
  have := Nat.pow_le_pow_right (show 0 < 2 by decide) h
  exact_mod_cast this
theorem ucount_unique (v : Int) (n : Nat) (h0 : 0 ≤ v) (h1 : v < 18446744073709551616) (hn : 1 ≤ n) (hl : v < 2 ^ (8 * n)) (hg : 1 < n → 2 ^ (8 * (n - 1)) ≤ v) : ucount v = n := by
  rcases Nat.lt_trichotomy (ucount v) n with h | h | h
  · have h2 := ucount_lt v h0 h1
    have h3 := hg (by have := (ucount_range v h1).1; omega)
    have := pow_mono (8 * ucount v) (8 * (n - 1)) (by omega)
    omega
  · exact h
  · have h2 := ucount_ge v h0 h1 (by omega)
    have := pow_mono (8 * n) (8 * (ucount v - 1)) (by omega)
    omega

/-- How many octets with a sign. -/
def scnt : Nat → Int → Nat
  | 0, _ => 1
  | f + 1, n => if n / 128 = 0 ∨ n / 128 = -1 then 1 else scnt f (n / 256) + 1
def scount (n : Int) : Nat := scnt 7 n
theorem scnt_range (f : Nat) (n : Int) : 1 ≤ scnt f n ∧ scnt f n ≤ f + 1 := by
  induction f generalizing n with
  | zero => simp [scnt]
  | succ f ih =>
    unfold scnt
    split
    · omega
    · have := ih (n / 256); omega
theorem scnt_yes (f : Nat) (n : Int) (h : n / 128 = 0 ∨ n / 128 = -1) : scnt f n = 1 := by
  cases f with
  | zero => rfl
  | succ f => rw [scnt, if_pos h]
theorem scnt_no (f : Nat) (n : Int) (h : ¬ (n / 128 = 0 ∨ n / 128 = -1)) : scnt (f + 1) n = scnt f (n / 256) + 1 := by rw [scnt, if_neg h]
/-- The numbers that so many octets hold, with a sign. -/
def sfits (n : Int) (k : Nat) : Prop := -(128 * 2 ^ (8 * k)) ≤ n ∧ n < 128 * 2 ^ (8 * k)
theorem scnt_fits (f : Nat) (n : Int) (h : sfits n f) : sfits n (scnt f n - 1) ∧ (1 < scnt f n → ¬ sfits n (scnt f n - 2)) := by
  induction f generalizing n with
  | zero => exact ⟨by simpa [scnt] using h, fun h => by simp [scnt] at h⟩
  | succ f ih =>
    by_cases h1 : n / 128 = 0 ∨ n / 128 = -1
    · rw [scnt_yes _ _ h1]
      refine ⟨?_, fun h => by omega⟩
      simp only [sfits, Nat.sub_self, Nat.mul_zero, Int.pow_zero, Int.mul_one]
      omega
    · rw [scnt_no _ _ h1]
      have h2 : sfits (n / 256) f := by
        unfold sfits at h ⊢
        rw [pow8_succ] at h
        omega
      obtain ⟨h3, h4⟩ := ih _ h2
      have hr := scnt_range f (n / 256)
      obtain ⟨m, hm⟩ : ∃ m, scnt f (n / 256) = m + 1 := ⟨scnt f (n / 256) - 1, by omega⟩
      rw [hm] at h3 h4 ⊢
      simp only [Nat.add_sub_cancel] at h3 h4 ⊢
      refine ⟨?_, fun _ => ?_⟩
      · unfold sfits at h3 ⊢
        rw [pow8_succ]
        omega
      · show ¬ sfits n m
        cases m with
        | zero => simp only [sfits, Nat.mul_zero, Int.pow_zero, Int.mul_one]; omega
        | succ m =>
          have h5 := h4 (by omega)
          simp only [show m + 1 + 1 - 2 = m from by omega] at h5
          unfold sfits at h5 ⊢
          rw [pow8_succ]
          omega

/-- Octets as a number with a sign. -/
def svalB (l : List Int) : Int := valB l - (if 128 ≤ l.headD 0 then 2 ^ (8 * l.length) else 0)
theorem svalB_one (x : Int) : svalB [x] = x - (if 128 ≤ x then 256 else 0) := by simp [svalB, valB]
theorem svalB_snoc (l : List Int) (x : Int) (h : l ≠ []) : svalB (l ++ [x]) = svalB l * 256 + x := by
  obtain ⟨a, t, rfl⟩ := List.exists_cons_of_ne_nil h
  unfold svalB
  have e : ((a :: t) ++ [x]).headD 0 = (a :: t).headD 0 := rfl
  rw [valB_snoc, e, List.length_append, List.length_singleton, pow8_succ]
  split <;> omega
theorem svalB_range (l : List Int) (hl : l ≠ []) (h : ∀ x ∈ l, 0 ≤ x ∧ x < 256) : sfits (svalB l) (l.length - 1) := by
  induction l using snoc_ind with
  | h0 => exact absurd rfl hl
  | h1 l b ih =>
    have hb := h b (by simp)
    by_cases h0 : l = []
    · subst h0
      simp only [List.nil_append, svalB_one, sfits, List.length_singleton, Nat.sub_self, Nat.mul_zero, Int.pow_zero, Int.mul_one]
      split <;> omega
    · have h1 := ih h0 fun x hx => h x (by simp [hx])
      have hp := List.length_pos_iff.2 h0
      rw [svalB_snoc _ _ h0, List.length_append, List.length_singleton]
      obtain ⟨m, hm⟩ : ∃ m, l.length = m + 1 := ⟨l.length - 1, by omega⟩
      rw [hm] at h1 ⊢
      simp only [Nat.add_sub_cancel] at h1 ⊢
      unfold sfits at h1 ⊢
      rw [pow8_succ]
      omega
theorem sfits_i64 (n : Int) (k : Nat) (h : sfits n k) (hk : k ≤ 7) : -9223372036854775808 ≤ n ∧ n ≤ 9223372036854775807 := by
  unfold sfits at h
  have h2 := pow_mono (8 * k) 56 (by omega)
  have h3 : (2 : Int) ^ 56 = 72057594037927936 := by decide
  omega
theorem sfits_of_i64 (n : Int) (h : -9223372036854775808 ≤ n ∧ n ≤ 9223372036854775807) : sfits n 7 := by
  unfold sfits
  have h3 : (2 : Int) ^ (8 * 7) = 72057594037927936 := by decide
  omega
theorem or_i64 (a x : Int) (ha : a % 256 = 0) (h0 : -9223372036854775808 ≤ a) (h1 : a ≤ 9223372036854775807) (hx0 : 0 ≤ x) (hx1 : x < 256) : Go.bits .or .i64 a x = a + x := by
  obtain ⟨y, rfl⟩ := Int.eq_ofNat_of_zero_le hx0
  have hy : y < 2 ^ 8 := by omega
  show IntKind.i64.wrap ((BitVec.ofInt 64 a ||| BitVec.ofInt 64 (y : Int)).toNat : Int) = _
  have e1 : (BitVec.ofInt 64 (y : Int)).toNat = y := by rw [BitVec.ofInt_natCast, BitVec.toNat_ofNat]; omega
  have e2 : (BitVec.ofInt 64 a).toNat = 2 ^ 8 * ((a % 18446744073709551616).toNat / 256) := by
    rw [BitVec.toNat_ofInt]
    have : (a % ((2 ^ 64 : Nat) : Int)) = a % 18446744073709551616 := by rfl
    rw [this]
    omega
  rw [BitVec.toNat_or, e1, e2, ← Nat.two_pow_add_eq_or_of_lt hy, IntKind.wrap_i64]
  omega
theorem or_u64 (a x : Int) (ha : a % 256 = 0) (h0 : 0 ≤ a) (h1 : a < 18446744073709551616) (hx0 : 0 ≤ x) (hx1 : x < 256) : Go.bits .or .u64 a x = a + x := by
  refine bits_join .u64 64 (by decide) ?_ 8 a x h0 ha h1 hx0 hx1 (by omega)
  intro n h₀ h₁
  have : IntKind.u64.wrap n = n % 18446744073709551616 := by simp [IntKind.wrap, IntKind.bits, IntKind.signed]
  rw [this]; omega
theorem and128 (x : Int) (h0 : 0 ≤ x) (h1 : x < 256) : Go.bits .and .u8 x 128 = if 128 ≤ x then 128 else 0 := by
  have : ∀ n : Fin 256, Go.bits .and .u8 (n.val : Int) 128 = if 128 ≤ (n.val : Int) then 128 else 0 := by decide +kernel
  obtain ⟨y, rfl⟩ := Int.eq_ofNat_of_zero_le h0
  exact this ⟨y, by omega⟩

/-! ### What is told of octets -/
def uErr (l : List Int) : Int := if l = [] ∨ (1 < l.length ∧ l.headD 0 = 0) then 3 else if 8 < l.length then 11 else 0
def uVal (l : List Int) : Int := if uErr l = 0 then valB l else 0
def alikeB (l : List Int) : Bool := match l with
  | x :: y :: _ => (x == 0 && decide (y < 128)) || (x == 255 && decide (128 ≤ y))
  | _ => false
def sErr (l : List Int) : Int := if l = [] ∨ alikeB l = true then 3 else if 8 < l.length then 11 else 0
def sVal (l : List Int) : Int := if sErr l = 0 then svalB l else 0
end Go.Proofs.Ytomjgjdnlbpleaa.Oct
