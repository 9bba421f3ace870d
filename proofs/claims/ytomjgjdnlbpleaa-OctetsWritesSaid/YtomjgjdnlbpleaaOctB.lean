/- The walks of layer 2: numbers with a sign written as octets; a row turned round. -/
import Derived.Test.YtomjgjdnlbpleaaOctA
import Derived.Deep.RegionHeld3
namespace Go.Proofs.Ytomjgjdnlbpleaa.Oct
open Go.RowKit Go.Proofs.Ytomjgjdnlbpleaa.Sep Go.Proofs.Ytomjgjdnlbpleaa.Stream
variable {B : Nat} {w0 w : World} {R : HP}

theorem row_shape {v : Value} {xs : List Int} {m : Nat} (h : St B w0 w (Row8 v xs • R)) (hm : xs.length = m) : ∃ A c, v = .slice A m c ∧ m ≤ c := by
  obtain ⟨_, A, c, rfl, hc, -⟩ := h.reads
  exact ⟨A, c, by rw [hm], by omega⟩
def lenV8 : Value → Nat | .slice _ n _ => n | _ => 0
/-- A list, so many of its ends exchanged. -/
def revK (xs : List Int) (k : Nat) : List Int := (List.range xs.length).map fun t => if t < k ∨ xs.length - k ≤ t then xs.getD (xs.length - 1 - t) 0 else xs.getD t 0
theorem revK_length (xs : List Int) (k : Nat) : (revK xs k).length = xs.length := by simp [revK]
theorem revK_at (xs : List Int) (k t : Nat) (h : t < xs.length) : (revK xs k)[t]? = some (if t < k ∨ xs.length - k ≤ t then xs.getD (xs.length - 1 - t) 0 else xs.getD t 0) := by
  simp [revK, List.getElem?_range h]
theorem revK_zero (xs : List Int) : revK xs 0 = xs := by
  apply List.ext_getElem?
  intro t
  by_cases h : t < xs.length
  · rw [revK_at _ _ _ h, if_neg (by omega)]
    simp [List.getD, List.getElem?_eq_getElem h]
  · rw [List.getElem?_eq_none (by rw [revK_length]; omega), List.getElem?_eq_none (by omega)]
theorem revK_end (xs : List Int) (k : Nat) (h : xs.length ≤ 2 * k + 1) : revK xs k = xs.reverse := by
  apply List.ext_getElem?
  intro t
  by_cases ht : t < xs.length
  · rw [revK_at _ _ _ ht, List.getElem?_reverse ht, List.getElem?_eq_getElem (by omega)]
    split
    · simp [List.getD, List.getElem?_eq_getElem (show xs.length - 1 - t < xs.length by omega)]
    · have : t = xs.length - 1 - t := by omega
      rw [List.getD, List.getElem?_eq_getElem ht]
      simp only [Option.getD_some]
      congr 1
      congr 1
  · rw [List.getElem?_eq_none (by rw [revK_length]; omega), List.getElem?_eq_none (by simp; omega)]
theorem revK_succ (xs : List Int) (k : Nat) (h : 2 * k + 1 < xs.length) (a b : Int) (ha : (revK xs k)[k]? = some a) (hb : (revK xs k)[xs.length - 1 - k]? = some b) :
    revK xs (k + 1) = ((revK xs k).set k b).set (xs.length - 1 - k) a := by
  apply List.ext_getElem?
  intro t
  rw [revK_at _ _ _ (by omega), if_neg (by omega)] at ha hb
  simp only [Option.some.injEq] at ha hb
  by_cases ht : t < xs.length
  · rw [revK_at _ _ _ ht, List.getElem?_set, List.getElem?_set, List.length_set, revK_length]
    by_cases h1 : xs.length - 1 - k = t
    · subst h1
      rw [if_pos rfl, if_pos (by omega), if_pos (by omega), ← ha]
      congr 2
      omega
    · rw [if_neg h1]
      by_cases h2 : k = t
      · subst h2
        rw [if_pos rfl, if_pos (by omega), if_pos (by omega), ← hb]
      · rw [if_neg h2, revK_at _ _ _ ht]
        congr 1
        by_cases h3 : t < k ∨ xs.length - k ≤ t
        · rw [if_pos h3, if_pos (by omega)]
        · rw [if_neg h3, if_neg (by omega)]
  · rw [List.getElem?_eq_none (by rw [revK_length]; omega), List.getElem?_eq_none (by simp [revK_length]; omega)]

theorem reverse_calls (v : Value) (xs : List Int) (hl : xs.length ≤ 1000000000000) (h : St B w0 w (Row8 v xs • R)) :
    Calls Try.prog 56 #[v] w fun e w' => e = .returned (.tuple #[]) ∧ St B w0 w' (Row8 v xs.reverse • R) := by
  obtain ⟨n, hn⟩ : ∃ n, n = xs.length := ⟨_, rfl⟩
  obtain ⟨A, c, rfl, hc⟩ := row_shape h hn.symm
  have hl2 : n ≤ 1000000000000 := by omega
  have HN := Lib.hid hn
  have HS := Lib.hid h
  clear h hn hl
  go_enter Try.func56, Try.ntmps56
  go_wp2
  go_loopw [2, 3] (fun i j wr => ∃ k : Nat, 2 * k ≤ n + 1 ∧ i = .int .i64 k ∧ j = .int .i64 ((n : Int) - 1 - k) ∧ Hid (St B w0 wr (Row8 (.slice A n c) (revK xs k) • R))) (fun i _ _ => n + 1 - (intOf i).toNat)
  case atStart => exact ⟨0, by omega, rfl, by go_num, Lib.hid (by rw [revK_zero]; exact HS.out)⟩
  case round =>
    clear HS
    obtain ⟨k, hk, rfl, rfl, H3⟩ := hrel
    by_cases hlt : 2 * k + 1 < n
    · obtain ⟨m, hm⟩ : ∃ m, m + k + 1 = n := ⟨n - 1 - k, by omega⟩
      have hmi : (n : Int) - 1 - k = (m : Int) := by omega
      rw [hmi]
      obtain ⟨g, cap, e, hcap, hcm, hcell, hfree, hset⟩ := H3.out.rowFull (by rw [revK_length, ← HN.out]; omega)
      simp only [revK_length, ← HN.out, Value.slice.injEq] at e hcap hfree hset
      obtain ⟨rfl, -, rfl⟩ := e
      obtain ⟨a, ha⟩ : ∃ a, (revK xs k)[k]? = some a := ⟨_, List.getElem?_eq_getElem (by rw [revK_length, ← HN.out]; omega)⟩
      obtain ⟨b, hb⟩ : ∃ b, (revK xs k)[m]? = some b := ⟨_, List.getElem?_eq_getElem (by rw [revK_length, ← HN.out]; omega)⟩
      have ca := hcell k _ (by rw [List.getElem?_map, ha]; rfl)
      have cb := hcell m _ (by rw [List.getElem?_map, hb]; rfl)
      have fa := hfree k (by omega)
      have fb := hfree m (by omega)
      have hkm : k < m := by omega
      have hmn : m < n := by omega
      have HM := Lib.hid hm
      have HA := Lib.hid (And.intro ha (And.intro hb hset))
      clear ha hb hset hcell hfree hm hcap
      go_wp2
      go_region
      go_wp2
      refine ⟨⟨k + 1, by omega, by go_num, congrArg (Value.int .i64) (by have := HM.out; omega), Lib.hid ?_⟩, by simp [intOf]; omega⟩
      obtain ⟨ha, hb, hset⟩ := HA.out
      have hm := HM.out
      have s1 := hset k (.int .u8 b) (by omega)
      obtain ⟨_, _, e, _, _, _, _, hset2⟩ := s1.rowFull (by omega)
      simp only [Value.slice.injEq, Option.some.injEq, Addr.mk.injEq] at e
      obtain ⟨⟨rfl, -⟩, -⟩ := e
      have s2 := (hset2 m (.int .u8 a) hmn).drew
      have hmx : m = xs.length - 1 - k := by rw [← HN.out]; omega
      have e2 := revK_succ xs k (by rw [← HN.out]; omega) a b ha (by rw [← hmx]; exact hb)
      rw [← hmx] at e2
      show St B w0 _ (RowV _ 1 _ (revK xs (k + 1)).length ((revK xs (k + 1)).map (Value.int .u8)) • R)
      rw [revK_length, ← HN.out, e2, List.map_set, List.map_set]
      exact s2
    · have hx : revK xs k = xs.reverse := revK_end xs k (by rw [← HN.out]; omega)
      have HX := Lib.hid hx
      clear hx
      have hge : ¬ ((k : Int) < (n : Int) - 1 - k) := by omega
      go_wp2
      go_end0
      refine ⟨rfl, ?_⟩
      have h5 := H3.out
      rw [HX.out] at h5
      exact h5

theorem div_i64 (n : Int) (j : Nat) (h : -9223372036854775808 ≤ n ∧ n ≤ 9223372036854775807) : -9223372036854775808 ≤ n / 2 ^ (8 * j) ∧ n / 2 ^ (8 * j) ≤ 9223372036854775807 := by
  have hp := pow8_pos j
  refine ⟨?_, ?_⟩
  · rw [Int.le_ediv_iff_mul_le hp]
    have : (-9223372036854775808 : Int) * 2 ^ (8 * j) ≤ -9223372036854775808 * 1 := Int.mul_le_mul_of_nonpos_left (by decide) (by omega)
    omega
  · have : n / 2 ^ (8 * j) < 9223372036854775808 := by
      rw [Int.ediv_lt_iff_lt_mul hp]
      have : (9223372036854775808 : Int) * 1 ≤ 9223372036854775808 * 2 ^ (8 * j) := Int.mul_le_mul_of_nonneg_left (by omega) (by decide)
      omega
    omega
theorem scount_last (n : Int) (j : Nat) (hj : j ≤ 7) (h : -9223372036854775808 ≤ n ∧ n ≤ 9223372036854775807) (he : scount n = j + scnt (7 - j) (n / 2 ^ (8 * j))) (hno : ¬ (n / 2 ^ (8 * j) / 128 = 0 ∨ n / 2 ^ (8 * j) / 128 = -1)) :
    j + 1 ≤ 7 ∧ scount n = (j + 1) + scnt (7 - (j + 1)) (n / 2 ^ (8 * (j + 1))) := by
  have h7 : j ≠ 7 := by
    rintro rfl
    have hd : (2 : Int) ^ (8 * 7) = 72057594037927936 := by decide
    rw [hd] at hno
    omega
  refine ⟨by omega, ?_⟩
  rw [he]
  have e : 7 - j = (7 - (j + 1)) + 1 := by omega
  rw [e, scnt_no _ _ hno, div_pow8_succ]
  omega
theorem byte_mod (n : Int) : n % 18446744073709551616 % 256 = n % 256 := Int.emod_emod_of_dvd _ ⟨72057594037927936, by decide⟩

set_option maxHeartbeats 400000 in
theorem signed_calls (n : Int) (h0 : -9223372036854775808 ≤ n) (h1 : n ≤ 9223372036854775807) (h : St B w0 w R) :
    Calls Try.prog 34 #[.int .i64 n] w fun e w' => ∃ v', e = .returned v' ∧ St B w0 w' (Row8 v' (bytesBE n (scount n)) • R) := by
  have HS := Lib.hid h
  clear h
  go_enter Try.func34, Try.ntmps34
  go_wp2_with fail
  refine (with_calls _ _ [] [n % 256] ((HS.out.alloc (.cells #[.int .u8 (n % 256)] 5)).nil _ _) (St.blkReads (HS.out.alloc _) rfl rfl rfl (by simp)) (by simp)).mono ?_
  rintro e w1 ⟨v', rfl, h2⟩
  rw [List.nil_append, ← lowsLE_one] at h2
  have H2 := Lib.hid h2.two.drop
  clear h2 HS
  go_wp2_with fail
  go_loopw [0, 3] (fun x vb wr => ∃ j : Nat, j ≤ 7 ∧ x = .int .i64 (n / 2 ^ (8 * j)) ∧ Hid (St B w0 wr (Row8 vb (lowsLE n (j + 1)) • R) ∧ scount n = j + scnt (7 - j) (n / 2 ^ (8 * j)))) (fun x vb _ => 10 - lenV8 vb)
  case atStart => exact ⟨0, by omega, by simp, Lib.hid ⟨H2.out, by simp [scount]⟩⟩
  case round =>
    clear H2
    obtain ⟨j, hj, rfl, H3⟩ := hrel
    obtain ⟨hy0, hy1⟩ := div_i64 n j ⟨h0, h1⟩
    generalize hy : n / 2 ^ (8 * j) = y at H3 hy0 hy1 ⊢
    have HY := Lib.hid hy
    clear hy
    have hfin : (y / 128 = 0 ∨ y / 128 = -1) → (lowsLE n (j + 1)).reverse = bytesBE n (scount n) := by
      intro hy
      have h6 := H3.out.2
      rw [scnt_yes _ _ hy] at h6
      rw [h6, lowsLE, List.reverse_reverse]
    have HF := Lib.hid hfin
    clear hfin
    by_cases hz : y / 128 = 0 ∨ y / 128 = -1
    · have hr := HF.out hz
      have HR := Lib.hid hr
      clear hr HF
      obtain ⟨A, c, rfl, hc⟩ := row_shape H3.out.1 (lowsLE_length n (j + 1))
      have hcut : ∀ (W : World), St B w0 W (Row8 (.slice A (j + 1) c) (lowsLE n (j + 1)) • R) → Calls Try.prog 56 #[.slice A (j + 1) c] W fun e w' => e = .returned (.tuple #[]) ∧ St B w0 w' (Row8 (.slice A (j + 1) c) (bytesBE n (scount n)) • R) := by
        intro W hW
        rw [← HR.out]
        exact reverse_calls _ _ (by rw [lowsLE_length]; omega) hW
      have HC := Lib.hid hcut
      clear hcut
      rcases hz with hz | hz
      · have t1 : (y / 128 != 0) = false := by rw [bne_eq_false_iff_eq]; exact hz
        clear hz
        go_wp2_with (go_at_call 56; refine (HC.out _ H3.out.1).mono ?_; rintro e w2 ⟨rfl, h4⟩; have H4 := Lib.hid h4; clear h4)
        go_ret
        exact ⟨_, rfl, H4.out⟩
      · have t1 : (y / 128 != 0) = true := by rw [bne_iff_ne]; omega
        have t2 : (y / 128 != -1) = false := by rw [bne_eq_false_iff_eq]; exact hz
        clear hz
        go_wp2_with (go_at_call 56; refine (HC.out _ H3.out.1).mono ?_; rintro e w2 ⟨rfl, h4⟩; have H4 := Lib.hid h4; clear h4)
        go_ret
        exact ⟨_, rfl, H4.out⟩
    · clear HF
      have h5 := H3.out.2
      rw [← HY.out] at h5 hz
      obtain ⟨hj1, hj2⟩ := scount_last n j hj ⟨h0, h1⟩ h5 hz
      have hd : n / 2 ^ (8 * (j + 1)) = y / 256 := by rw [div_pow8_succ, HY.out]
      have hl := lowsLE_succ n (j + 1)
      rw [hd] at hj2 hl
      have HJ := Lib.hid (And.intro hj2 (And.intro hd hl))
      rw [HY.out] at hz
      have t1 : (y / 128 != 0) = true := by rw [bne_iff_ne]; omega
      have t2 : (y / 128 != -1) = true := by rw [bne_iff_ne]; omega
      clear hz h5 hj2 hd hl
      obtain ⟨A, c, rfl, hc⟩ := row_shape H3.out.1 (lowsLE_length n (j + 1))
      go_wp2_with fail
      refine (with_calls _ _ (lowsLE n (j + 1)) [y / 256 % 256] (H3.out.1.alloc _).two (St.blkReads (H3.out.1.alloc _) rfl rfl rfl (by simp)) (by rw [lowsLE_length, List.length_singleton]; omega)).mono ?_
      rintro e w1 ⟨v', rfl, h4⟩
      rw [← HJ.out.2.2] at h4
      have h6 := h4.two.drop
      obtain ⟨A2, c2, rfl, hc2⟩ := row_shape h6 (lowsLE_length n (j + 2))
      have H4 := Lib.hid h6
      clear h4 h6 H3
      go_wp2_with fail
      exact ⟨⟨j + 1, by omega, by rw [HJ.out.2.1], Lib.hid ⟨H4.out, by rw [HJ.out.2.1]; exact HJ.out.1⟩⟩, by simp only [lenV8]; omega⟩
end Go.Proofs.Ytomjgjdnlbpleaa.Oct
