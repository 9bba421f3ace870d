/- Whole numbers as octets: there and back, order, signs: plain lists, no program. -/
import Derived.Test.YtomjgjdnlbpleaaOctM
namespace Go.Proofs.Ytomjgjdnlbpleaa.Oct

theorem sfits_mono (z : Int) (a b : Nat) (h : a ≤ b) (hz : sfits z a) : sfits z b := by
  unfold sfits at hz ⊢
  have := pow_mono (8 * a) (8 * b) (by omega)
  omega
theorem scount_unique (z : Int) (k : Nat) (hk : 1 ≤ k) (h7 : sfits z 7) (h1 : sfits z (k - 1)) (h2 : 1 < k → ¬ sfits z (k - 2)) : scount z = k := by
  obtain ⟨h3, h4⟩ := scnt_fits 7 z h7
  have hr := scnt_range 7 z
  show scnt 7 z = k
  rcases Nat.lt_trichotomy (scnt 7 z) k with h | h | h
  · exact absurd (sfits_mono z _ (k - 2) (by omega) h3) (h2 (by omega))
  · exact h
  · exact absurd (sfits_mono z _ _ (by omega) h1) (h4 (by omega))
theorem scount_range (z : Int) : 1 ≤ scount z ∧ scount z ≤ 8 := scnt_range 7 z
theorem scount_fits (z : Int) (h : sfits z 7) : sfits z (scount z - 1) := (scnt_fits 7 z h).1
theorem scount_min (z : Int) (h : sfits z 7) : 1 < scount z → ¬ sfits z (scount z - 2) := (scnt_fits 7 z h).2

theorem valB_cons (x : Int) (t : List Int) : valB (x :: t) = x * 2 ^ (8 * t.length) + valB t := by
  induction t using snoc_ind with
  | h0 => simp [valB]
  | h1 t b ih =>
    have e : x :: (t ++ [b]) = (x :: t) ++ [b] := rfl
    rw [e, valB_snoc, ih, valB_snoc, List.length_append, List.length_singleton, pow8_succ]
    have : x * (2 ^ (8 * t.length) * 256) = x * 2 ^ (8 * t.length) * 256 := by rw [Int.mul_assoc]
    rw [this]
    omega

theorem uErr_zero {l : List Int} (h : uErr l = 0) : l ≠ [] ∧ (1 < l.length → l.headD 0 ≠ 0) ∧ l.length ≤ 8 := by
  unfold uErr at h
  split at h
  · cases h
  · rename_i h1
    split at h
    · cases h
    · exact ⟨fun e => h1 (.inl e), fun h2 e => h1 (.inr ⟨h2, e⟩), by omega⟩
theorem uErr_of {l : List Int} (h1 : l ≠ []) (h2 : 1 < l.length → l.headD 0 ≠ 0) (h3 : l.length ≤ 8) : uErr l = 0 := by
  unfold uErr
  rw [if_neg (by rintro (e | ⟨e1, e2⟩); exact h1 e; exact h2 e1 e2), if_neg (by omega)]
theorem sErr_zero {l : List Int} (h : sErr l = 0) : l ≠ [] ∧ alikeB l = false ∧ l.length ≤ 8 := by
  unfold sErr at h
  split at h
  · cases h
  · rename_i h1
    split at h
    · cases h
    · refine ⟨fun e => h1 (.inl e), ?_, by omega⟩
      cases ha : alikeB l with
      | true => exact absurd (.inr ha) h1
      | false => rfl
theorem sErr_of {l : List Int} (h1 : l ≠ []) (h2 : alikeB l = false) (h3 : l.length ≤ 8) : sErr l = 0 := by
  unfold sErr
  rw [if_neg (by rintro (e | e); exact h1 e; rw [h2] at e; cases e), if_neg (by omega)]

/-! ### There and back -/
theorem u_back (v : Int) (h0 : 0 ≤ v) (h1 : v < 18446744073709551616) : uErr (bytesBE v (ucount v)) = 0 ∧ uVal (bytesBE v (ucount v)) = v := by
  have hr := ucount_range v h1
  have hl := ucount_lt v h0 h1
  have he : uErr (bytesBE v (ucount v)) = 0 := by
    refine uErr_of (by intro e; have := congrArg List.length e; rw [bytesBE_length] at this; simp at this; omega) (fun h2 => ?_) (by rw [bytesBE_length]; omega)
    rw [bytesBE_length] at h2
    have hg := ucount_ge v h0 h1 h2
    obtain ⟨m, hm⟩ : ∃ m, ucount v = m + 1 := ⟨ucount v - 1, by omega⟩
    rw [hm] at hg hl ⊢
    rw [bytesBE_head]
    simp only [Nat.add_sub_cancel] at hg
    rw [pow8_succ] at hl
    have hp := pow8_pos m
    have h5 : 1 ≤ v / 2 ^ (8 * m) := by rw [Int.le_ediv_iff_mul_le hp]; omega
    have h6 : v / 2 ^ (8 * m) < 256 := by rw [Int.ediv_lt_iff_lt_mul hp]; omega
    show v / 2 ^ (8 * m) % 256 ≠ 0
    omega
  refine ⟨he, ?_⟩
  unfold uVal
  rw [if_pos he, valB_bytesBE]
  exact Int.emod_eq_of_lt h0 hl
theorem u_only (l : List Int) (hx : ∀ x ∈ l, 0 ≤ x ∧ x < 256) (h : uErr l = 0) : 0 ≤ uVal l ∧ uVal l < 18446744073709551616 ∧ bytesBE (uVal l) (ucount (uVal l)) = l := by
  obtain ⟨h1, h2, h3⟩ := uErr_zero h
  have hv : uVal l = valB l := by unfold uVal; rw [if_pos h]
  have hr := valB_range l hx
  have h64 := pow_mono (8 * l.length) 64 (by omega)
  have e64 : (2 : Int) ^ 64 = 18446744073709551616 := by decide
  have hpos : 0 < l.length := List.length_pos_iff.2 h1
  have hc : ucount (valB l) = l.length := by
    refine ucount_unique _ _ hr.1 (by omega) hpos hr.2 fun h4 => ?_
    obtain ⟨x, t, rfl⟩ := List.exists_cons_of_ne_nil h1
    have hx0 : x ≠ 0 := h2 h4
    have hxr := hx x (by simp)
    have ht := valB_range t fun y hy => hx y (by simp [hy])
    rw [valB_cons]
    simp only [List.length_cons, Nat.add_sub_cancel]
    have hp := pow8_pos t.length
    have : 1 * 2 ^ (8 * t.length) ≤ x * 2 ^ (8 * t.length) := Int.mul_le_mul_of_nonneg_right (by omega) (by omega)
    omega
  rw [hv]
  exact ⟨hr.1, by omega, by rw [hc]; exact bytesBE_valB l hx⟩
theorem svalB_cons (x : Int) (t : List Int) : svalB (x :: t) = (x - (if 128 ≤ x then 256 else 0)) * 2 ^ (8 * t.length) + valB t := by
  have hl : (x :: t).length = t.length + 1 := rfl
  unfold svalB
  rw [valB_cons, hl, pow8_succ]
  by_cases h : 128 ≤ x
  · rw [if_pos (show 128 ≤ (x :: t).headD 0 from h), if_pos h, Int.sub_mul]; omega
  · rw [if_neg (show ¬ 128 ≤ (x :: t).headD 0 from h), if_neg h]; simp only [Int.sub_zero]
theorem mul_part (z p v : Int) (h0 : 0 ≤ v) (h1 : v < p) : (-(128 * p) ≤ z * p + v ∧ z * p + v < 128 * p) ↔ (-128 ≤ z ∧ z < 128) := by
  constructor
  · rintro ⟨h2, h3⟩
    refine ⟨?_, ?_⟩
    · by_cases h : -128 ≤ z
      · exact h
      · have : z * p ≤ -129 * p := Int.mul_le_mul_of_nonneg_right (by omega) (by omega)
        omega
    · by_cases h : z < 128
      · exact h
      · have : 128 * p ≤ z * p := Int.mul_le_mul_of_nonneg_right (by omega) (by omega)
        omega
  · rintro ⟨h2, h3⟩
    have h4 : -128 * p ≤ z * p := Int.mul_le_mul_of_nonneg_right h2 (by omega)
    have h5 : z * p ≤ 127 * p := Int.mul_le_mul_of_nonneg_right (by omega) (by omega)
    omega
theorem alike_fits (x y : Int) (t : List Int) (hx : ∀ z ∈ x :: y :: t, 0 ≤ z ∧ z < 256) : alikeB (x :: y :: t) = true ↔ sfits (svalB (x :: y :: t)) t.length := by
  have hx0 := hx x (by simp)
  have hy0 := hx y (by simp)
  have ht := valB_range t fun z hz => hx z (by simp [hz])
  have hs : svalB (x :: y :: t) = ((x - (if 128 ≤ x then 256 else 0)) * 256 + y) * 2 ^ (8 * t.length) + valB t := by
    rw [svalB_cons, valB_cons]
    have hl : (y :: t).length = t.length + 1 := rfl
    rw [hl, pow8_succ, Int.mul_comm (2 ^ (8 * t.length)) 256, ← Int.mul_assoc, Int.add_mul]
    omega
  have ha : alikeB (x :: y :: t) = true ↔ (x = 0 ∧ y < 128) ∨ (x = 255 ∧ 128 ≤ y) := by simp [alikeB]
  rw [ha, hs]
  unfold sfits
  rw [mul_part _ _ _ ht.1 ht.2]
  split <;> omega
theorem s_len (l : List Int) (hx : ∀ x ∈ l, 0 ≤ x ∧ x < 256) (h1 : l ≠ []) (h2 : alikeB l = false) (h3 : l.length ≤ 8) : sfits (svalB l) 7 ∧ scount (svalB l) = l.length := by
  have hr := svalB_range l h1 hx
  have hp := List.length_pos_iff.2 h1
  have h7 := sfits_mono _ _ 7 (by omega) hr
  refine ⟨h7, scount_unique _ _ (by omega) h7 hr fun h4 => ?_⟩
  match l, h4 with
  | x :: y :: t, _ =>
    have := alike_fits x y t hx
    rw [h2] at this
    simpa using this
theorem s_only (l : List Int) (hx : ∀ x ∈ l, 0 ≤ x ∧ x < 256) (h : sErr l = 0) : (-9223372036854775808 ≤ sVal l ∧ sVal l ≤ 9223372036854775807) ∧ bytesBE (sVal l) (scount (sVal l)) = l := by
  obtain ⟨h1, h2, h3⟩ := sErr_zero h
  have hv : sVal l = svalB l := by unfold sVal; rw [if_pos h]
  obtain ⟨h7, hc⟩ := s_len l hx h1 h2 h3
  rw [hv, hc]
  refine ⟨sfits_i64 _ _ h7 (by omega), ?_⟩
  have hr := valB_range l hx
  have e : svalB l % 2 ^ (8 * l.length) = valB l := by
    unfold svalB
    split
    · have : (valB l - 2 ^ (8 * l.length)) = valB l + 2 ^ (8 * l.length) * (-1) := by omega
      rw [this, Int.add_mul_emod_self_left]
      exact Int.emod_eq_of_lt hr.1 hr.2
    · rw [Int.sub_zero]
      exact Int.emod_eq_of_lt hr.1 hr.2
  rw [← bytesBE_mod _ _ l.length (Nat.le_refl _), e]
  exact bytesBE_valB l hx
/-- The value of a number's octets, where they hold it. -/
theorem svalB_bytesBE (n : Int) (k : Nat) (h : sfits n k) : svalB (bytesBE n (k + 1)) = n := by
  have hp := pow8_pos k
  have hd := Int.mul_ediv_add_emod n (2 ^ (8 * k))
  have h1 := Int.emod_nonneg n (Int.ne_of_gt hp)
  have h2 := Int.emod_lt_of_pos n hp
  rw [bytesBE_head, svalB_cons, valB_bytesBE, bytesBE_length]
  have hq : -128 ≤ n / 2 ^ (8 * k) ∧ n / 2 ^ (8 * k) < 128 := by
    rw [← mul_part (n / 2 ^ (8 * k)) (2 ^ (8 * k)) (n % 2 ^ (8 * k)) h1 h2, Int.mul_comm (n / 2 ^ (8 * k)) (2 ^ (8 * k))]
    unfold sfits at h
    rw [hd]
    exact h
  have e : (n / 2 ^ (8 * k) % 256 - (if 128 ≤ n / 2 ^ (8 * k) % 256 then 256 else 0)) = n / 2 ^ (8 * k) := by
    split <;> omega
  rw [e, Int.mul_comm, hd]
theorem s_back (n : Int) (h : -9223372036854775808 ≤ n ∧ n ≤ 9223372036854775807) : sErr (bytesBE n (scount n)) = 0 ∧ sVal (bytesBE n (scount n)) = n := by
  have h7 := sfits_of_i64 n h
  have hr := scount_range n
  have hf := scount_fits n h7
  have hm := scount_min n h7
  obtain ⟨k, hk⟩ : ∃ k, scount n = k + 1 := ⟨scount n - 1, by omega⟩
  rw [hk] at hf hm hr ⊢
  simp only [Nat.add_sub_cancel] at hf
  have hv := svalB_bytesBE n k hf
  have hal : alikeB (bytesBE n (k + 1)) = false := by
    cases k with
    | zero => simp [bytesBE, alikeB]
    | succ k =>
      have h1 := hm (by omega)
      rw [show k + 1 + 1 - 2 = k from by omega] at h1
      rw [bytesBE_head, bytesBE_head] at hv ⊢
      have := alike_fits (n / 2 ^ (8 * (k + 1)) % 256) (n / 2 ^ (8 * k) % 256) (bytesBE n k) (by
        have := bytesBE_range n (k + 2)
        rw [bytesBE_head, bytesBE_head] at this
        exact this)
      rw [hv, bytesBE_length] at this
      cases ha : alikeB (n / 2 ^ (8 * (k + 1)) % 256 :: n / 2 ^ (8 * k) % 256 :: bytesBE n k) with
      | false => rfl
      | true => exact absurd (this.1 ha) h1
  have he : sErr (bytesBE n (k + 1)) = 0 := sErr_of (by rw [bytesBE_head]; simp) hal (by rw [bytesBE_length]; omega)
  refine ⟨he, ?_⟩
  unfold sVal
  rw [if_pos he, hv]

/-! ### Order -/
theorem ucount_mono (v w : Int) (h0 : 0 ≤ w) (h : w ≤ v) (h1 : v < 18446744073709551616) : ucount w ≤ ucount v := by
  rcases Nat.lt_or_ge (ucount v) (ucount w) with h2 | h2
  · have h3 := ucount_lt v (by omega) h1
    have hr := ucount_range v h1
    have h4 := ucount_ge w h0 (by omega) (by omega)
    have := pow_mono (8 * ucount v) (8 * (ucount w - 1)) (by omega)
    omega
  · exact h2
theorem ucount_bits (v : Int) : Lib.bitLen v.toNat ≤ 8 * ucount v ∧ (ucount v = 1 ∨ 8 * (ucount v - 1) < Lib.bitLen v.toNat) := by
  unfold ucount
  omega
theorem bitLen_pow (v : Int) (h0 : 0 ≤ v) (h1 : v < 18446744073709551616) : v < 2 ^ Lib.bitLen v.toNat := by
  have h2 := bitLen_lt v.toNat (by omega)
  have h5 : ((v.toNat : Nat) : Int) < ((2 ^ Lib.bitLen v.toNat : Nat) : Int) := Int.ofNat_lt.2 h2
  rw [Int.toNat_of_nonneg h0] at h5
  simpa using h5

/-! ### Signs -/
theorem s_head (n : Int) (h : -9223372036854775808 ≤ n ∧ n ≤ 9223372036854775807) : ∃ x t, bytesBE n (scount n) = x :: t ∧ 0 ≤ x ∧ x < 256 ∧ (128 ≤ x ↔ n < 0) := by
  have h7 := sfits_of_i64 n h
  have hr := scount_range n
  have hf := scount_fits n h7
  obtain ⟨k, hk⟩ : ∃ k, scount n = k + 1 := ⟨scount n - 1, by omega⟩
  rw [hk] at hf ⊢
  simp only [Nat.add_sub_cancel] at hf
  have hp := pow8_pos k
  have hd := Int.mul_ediv_add_emod n (2 ^ (8 * k))
  have h1 := Int.emod_nonneg n (Int.ne_of_gt hp)
  have h2 := Int.emod_lt_of_pos n hp
  have hq : -128 ≤ n / 2 ^ (8 * k) ∧ n / 2 ^ (8 * k) < 128 := by
    rw [← mul_part (n / 2 ^ (8 * k)) (2 ^ (8 * k)) (n % 2 ^ (8 * k)) h1 h2, Int.mul_comm (n / 2 ^ (8 * k)) (2 ^ (8 * k))]
    unfold sfits at hf
    rw [hd]
    exact hf
  have hneg : n / 2 ^ (8 * k) < 0 ↔ n < 0 := by
    constructor
    · intro h3
      have : 2 ^ (8 * k) * (n / 2 ^ (8 * k)) ≤ 2 ^ (8 * k) * (-1) := Int.mul_le_mul_of_nonneg_left (by omega) (by omega)
      omega
    · intro h3
      exact Int.ediv_neg_of_neg_of_pos h3 hp
  exact ⟨_, _, bytesBE_head n k, by omega, by omega, by omega⟩
theorem u_head (n : Int) (h1 : n < 18446744073709551616) : ∃ x t, bytesBE n (ucount n) = x :: t ∧ 0 ≤ x ∧ x < 256 := by
  have hr := ucount_range n h1
  obtain ⟨k, hk⟩ : ∃ k, ucount n = k + 1 := ⟨ucount n - 1, by omega⟩
  rw [hk]
  exact ⟨_, _, bytesBE_head n k, by omega, by omega⟩
theorem signs_pos (n : Int) (h0 : 0 ≤ n) (h1 : n ≤ 9223372036854775807) (x : Int) (t : List Int) (hu : bytesBE n (ucount n) = x :: t) : bytesBE n (scount n) = if 128 ≤ x then 0 :: x :: t else x :: t := by
  have hr := ucount_range n (by omega)
  have hl := ucount_lt n h0 (by omega)
  have h7 := sfits_of_i64 n ⟨by omega, h1⟩
  obtain ⟨k, hk⟩ : ∃ k, ucount n = k + 1 := ⟨ucount n - 1, by omega⟩
  have hg := ucount_ge n h0 (by omega)
  rw [hk] at hl hg hu
  rw [bytesBE_head] at hu
  have hp := pow8_pos k
  have hl2 := hl
  rw [pow8_succ] at hl2
  have hx : n / 2 ^ (8 * k) = x := by
    have hx1 : n / 2 ^ (8 * k) % 256 = x := (List.cons.inj hu).1
    have hq1 : n / 2 ^ (8 * k) < 256 := by rw [Int.ediv_lt_iff_lt_mul hp]; omega
    have hq0 : 0 ≤ n / 2 ^ (8 * k) := Int.ediv_nonneg h0 (by omega)
    omega
  have hd := Int.mul_ediv_add_emod n (2 ^ (8 * k))
  have hm1 := Int.emod_nonneg n (Int.ne_of_gt hp)
  have hm2 := Int.emod_lt_of_pos n hp
  rw [hx] at hd
  by_cases h8 : 128 ≤ x
  · rw [if_pos h8]
    have hge : 2 ^ (8 * k) * 128 ≤ 2 ^ (8 * k) * x := Int.mul_le_mul_of_nonneg_left h8 (by omega)
    have hsc : scount n = k + 2 := by
      refine scount_unique n (k + 2) (by omega) h7 ?_ fun _ => ?_
      · rw [show k + 2 - 1 = k + 1 from by omega]; unfold sfits; omega
      · rw [show k + 2 - 2 = k from by omega]; unfold sfits; omega
    rw [hsc, bytesBE_head, bytesBE_head, hu]
    congr 1
    rw [Int.ediv_eq_zero_of_lt h0 hl]
    rfl
  · rw [if_neg h8]
    have hle : 2 ^ (8 * k) * x ≤ 2 ^ (8 * k) * 127 := Int.mul_le_mul_of_nonneg_left (by omega) (by omega)
    have hsc : scount n = k + 1 := by
      refine scount_unique n (k + 1) (by omega) h7 ?_ fun h9 => ?_
      · rw [Nat.add_sub_cancel]; unfold sfits; omega
      · obtain ⟨m, rfl⟩ : ∃ m, k = m + 1 := ⟨k - 1, by omega⟩
        have := hg (by omega)
        rw [Nat.add_sub_cancel, pow8_succ] at this
        rw [show m + 1 + 1 - 2 = m from by omega]
        unfold sfits
        have := pow8_pos m
        omega
    rw [hsc, bytesBE_head, hu]
end Go.Proofs.Ytomjgjdnlbpleaa.Oct
