/- The walks of layer 2: numbers with a sign read out of octets. -/
import Derived.Test.YtomjgjdnlbpleaaOctD
namespace Go.Proofs.Ytomjgjdnlbpleaa.Oct
open Go.RowKit Go.Proofs.Ytomjgjdnlbpleaa.Sep Go.Proofs.Ytomjgjdnlbpleaa.Stream
variable {B : Nat} {w0 w : World} {R : HP}

theorem alike_calls (v : Value) (xs : List Int) (w : World) (hr : Reads8 w v xs) (hx : ∀ x ∈ xs, 0 ≤ x ∧ x < 256) :
    Calls Try.prog 57 #[v] w fun e w' => e = .returned (.bool (alikeB xs)) ∧ w = w' := by
  obtain ⟨A, c, rfl, hc, hcm, hcell⟩ := reads_form hr
  clear hr
  match xs with
  | [] =>
    have hf : alikeB [] = false := rfl
    rw [hf]
    clear hx hcell hf
    simp only [List.length_nil]
    go_enter Try.func57, Try.ntmps57
    go_wp2
    go_ret
    exact ⟨rfl, rfl⟩
  | [x] =>
    have hf : alikeB [x] = false := rfl
    rw [hf]
    clear hx hcell hf
    simp only [List.length_singleton]
    go_enter Try.func57, Try.ntmps57
    go_wp2
    go_ret
    exact ⟨rfl, rfl⟩
  | x :: y :: t =>
    obtain ⟨hx0, hx1⟩ := hx x (by simp)
    obtain ⟨hy0, hy1⟩ := hx y (by simp)
    obtain ⟨g, off, rfl, hcel⟩ := hcell (by simp)
    have cx : w.cell? ⟨g, off, none⟩ = some (.int .u8 x) := hcel 0 _ rfl
    have cy : w.cell? ⟨g, off + 1, none⟩ = some (.int .u8 y) := hcel 1 _ rfl
    have hf : alikeB (x :: y :: t) = ((x == 0 && decide (y < 128)) || (x == 255 && decide (128 ≤ y))) := rfl
    have hand := and128 y hy0 hy1
    obtain ⟨n, hn⟩ : ∃ n, (x :: y :: t).length = n := ⟨_, rfl⟩
    have hn2 : 2 ≤ n := by rw [← hn]; simp
    rw [hn] at hc ⊢
    have hng : ((n : Int) > 1) := by omega
    have HN := Lib.hid hn
    clear hx hcell hcel hn
    by_cases h0 : x = 0
    · subst h0
      by_cases hy : y < 128
      · rw [if_neg (by omega)] at hand
        have hr : alikeB (0 :: y :: t) = true := by rw [hf]; simp [hy]
        have HR := Lib.hid hr
        clear hf hr
        go_enter Try.func57, Try.ntmps57
        go_wp2
        go_ret
        exact ⟨by rw [HR.out]; rfl, rfl⟩
      · rw [if_pos (by omega)] at hand
        have hr : alikeB (0 :: y :: t) = false := by rw [hf]; simp [hy]
        have HR := Lib.hid hr
        clear hf hr
        go_enter Try.func57, Try.ntmps57
        go_wp2
        go_ret
        exact ⟨by rw [HR.out]; rfl, rfl⟩
    · have t0 : (x == 0) = false := by rw [beq_eq_false_iff_ne]; exact h0
      clear h0
      by_cases h5 : x = 255
      · subst h5
        by_cases hy : y < 128
        · rw [if_neg (by omega)] at hand
          have hr : alikeB (255 :: y :: t) = false := by rw [hf]; simp; omega
          have HR := Lib.hid hr
          clear hf hr
          go_enter Try.func57, Try.ntmps57
          go_wp2
          go_ret
          exact ⟨by rw [HR.out]; rfl, rfl⟩
        · rw [if_pos (by omega)] at hand
          have hr : alikeB (255 :: y :: t) = true := by rw [hf]; simp; omega
          have HR := Lib.hid hr
          clear hf hr
          go_enter Try.func57, Try.ntmps57
          go_wp2
          go_ret
          exact ⟨by rw [HR.out]; rfl, rfl⟩
      · have t5 : (x == 255) = false := by rw [beq_eq_false_iff_ne]; exact h5
        have hr : alikeB (x :: y :: t) = false := by rw [hf, t0, t5]; rfl
        have HR := Lib.hid hr
        clear hf hr h5 hand
        go_enter Try.func57, Try.ntmps57
        go_wp2
        go_ret
        exact ⟨by rw [HR.out]; rfl, rfl⟩

theorem i8_wrap (x : Int) (h0 : 0 ≤ x) (h1 : x < 256) : IntKind.i8.wrap x = svalB [x] := by
  rw [svalB_one]
  have e : IntKind.i8.wrap x = if x % 256 ≥ 128 then x % 256 - 256 else x % 256 := by simp [IntKind.wrap, IntKind.bits, IntKind.signed]
  rw [e]
  split <;> split <;> omega
theorem svalB_take_succ (xs : List Int) (k : Nat) (x : Int) (h : xs[k + 1]? = some x) : svalB (xs.take (k + 2)) = svalB (xs.take (k + 1)) * 256 + x := by
  have hk : k + 1 < xs.length := (List.getElem?_eq_some_iff.1 h).1
  rw [List.take_succ_eq_append_getElem hk, svalB_snoc _ _ (by intro e; have this := congrArg List.length e; rw [List.length_take] at this; simp only [List.length_nil] at this; omega)]
  congr 1
  simpa [List.getElem?_eq_getElem hk] using h
theorem svalB_take_range (xs : List Int) (k : Nat) (h : ∀ x ∈ xs, 0 ≤ x ∧ x < 256) (hk : k ≤ 6) (hl : k < xs.length) : -36028797018963968 ≤ svalB (xs.take (k + 1)) ∧ svalB (xs.take (k + 1)) < 36028797018963968 := by
  have hlen : (xs.take (k + 1)).length = k + 1 := by rw [List.length_take]; omega
  have h1 := svalB_range (xs.take (k + 1)) (by intro e; rw [e] at hlen; simp at hlen) fun x hx => h x (List.mem_of_mem_take hx)
  rw [hlen, Nat.add_sub_cancel] at h1
  have h2 := pow_mono (8 * k) 48 (by omega)
  have h3 : (2 : Int) ^ 48 = 281474976710656 := by decide
  unfold sfits at h1
  omega

set_option maxHeartbeats 400000 in
theorem fsigned_calls (v : Value) (xs : List Int) (w : World) (hr : Reads8 w v xs) (hx : ∀ x ∈ xs, 0 ≤ x ∧ x < 256) :
    Calls Try.prog 38 #[v] w fun e w' => e = .returned (.tuple #[.int .i64 (sVal xs), .int .i64 (sErr xs)]) ∧ w = w' := by
  have HX := Lib.hid hx
  have HRR := Lib.hid hr
  obtain ⟨A, c, rfl, hc, hcm, hcell⟩ := reads_form hr
  obtain ⟨n, hn⟩ : ∃ n, xs.length = n := ⟨_, rfl⟩
  rw [hn] at hc hcell HRR ⊢
  have hm : n ≤ 9223372036854775807 := by omega
  have HN := Lib.hid hn
  clear hx hn hr
  by_cases h0 : n = 0
  · subst h0
    have he : sErr xs = 3 := by unfold sErr; rw [if_pos (.inl (List.eq_nil_of_length_eq_zero HN.out))]
    have hv : sVal xs = 0 := by unfold sVal; rw [he]; rfl
    have HE := Lib.hid (And.intro he hv)
    clear he hv hcell
    go_enter Try.func38, Try.ntmps38
    go_wp2
    go_ret2
    rw [HE.out.1, HE.out.2]
    exact ⟨rfl, rfl⟩
  · obtain ⟨x, hx0⟩ : ∃ x, xs[0]? = some x := ⟨_, List.getElem?_eq_getElem (by rw [HN.out]; omega)⟩
    obtain ⟨g, off, rfl, hcel⟩ := hcell (by omega)
    clear hcell
    have cx : w.cell? ⟨g, off, none⟩ = some (.int .u8 x) := hcel 0 _ hx0
    obtain ⟨hx1, hx2⟩ := HX.out x (List.mem_of_getElem? hx0)
    have hz : ((n : Int) == 0) = false := by rw [beq_eq_false_iff_ne]; omega
    have hxne : xs ≠ [] := by intro e; rw [e] at hx0; cases hx0
    have hsv : svalB (xs.take 1) = IntKind.i8.wrap x := by
      rw [i8_wrap x hx1 hx2]
      congr 1
      cases xs with
      | nil => cases hx0
      | cons a t => simpa using hx0
    have HC := Lib.hid (And.intro hcel (And.intro hx0 (And.intro hxne hsv)))
    clear hcel hx0 hxne hsv
    have hal := alike_calls _ xs w (by have := HRR.out; rw [← HN.out] at this; exact this) HX.out
    rw [HN.out] at hal
    cases hab : alikeB xs with
    | true =>
      rw [hab] at hal
      have he : sErr xs = 3 := by unfold sErr; rw [if_pos (.inr hab)]
      have hv : sVal xs = 0 := by unfold sVal; rw [he]; rfl
      have HE := Lib.hid (And.intro he (And.intro hv hal))
      clear he hv hab hal
      go_enter Try.func38, Try.ntmps38
      go_wp2_with (go_at_call 57; refine HE.out.2.2.mono ?_; rintro e w' ⟨rfl, rfl⟩)
      go_ret2
      rw [HE.out.1, HE.out.2.1]
      exact ⟨rfl, rfl⟩
    | false =>
      rw [hab] at hal
      have hno : ¬ (xs = [] ∨ alikeB xs = true) := by rw [hab]; simp [HC.out.2.2.1]
      by_cases h8 : 8 < n
      · have he : sErr xs = 11 := by unfold sErr; rw [if_neg hno, if_pos (by rw [HN.out]; exact h8)]
        have hv : sVal xs = 0 := by unfold sVal; rw [he]; rfl
        have HE := Lib.hid (And.intro he (And.intro hv hal))
        clear he hv hab hal hno
        go_enter Try.func38, Try.ntmps38
        go_wp2_with (go_at_call 57; refine HE.out.2.2.mono ?_; rintro e w' ⟨rfl, rfl⟩)
        go_ret2
        rw [HE.out.1, HE.out.2.1]
        exact ⟨rfl, rfl⟩
      · have he : sErr xs = 0 := by unfold sErr; rw [if_neg hno, if_neg (by rw [HN.out]; exact h8)]
        have hv : sVal xs = svalB xs := by unfold sVal; rw [he]; rfl
        have HE := Lib.hid (And.intro he (And.intro hv hal))
        clear he hv hab hal hno
        have hst : wrap64 (IntKind.i8.wrap x) = svalB (xs.take 1) := by
          rw [HC.out.2.2.2]
          have := i8_wrap x hx1 hx2
          rw [svalB_one] at this
          rw [this]
          unfold wrap64
          split <;> omega
        have HST := Lib.hid hst
        clear hst
        by_cases hc1 : c = 1
        · obtain rfl : n = 1 := by omega
          subst hc1
          have hfin : svalB (xs.take 1) = svalB xs := by rw [List.take_of_length_le (by rw [HN.out]; omega)]
          have HF := Lib.hid hfin
          clear hfin
          go_enter Try.func38, Try.ntmps38
          go_wp2_with (go_at_call 57; refine HE.out.2.2.mono ?_; rintro e w' ⟨rfl, rfl⟩)
          go_loop [4, 27] (fun y i => i = .int .i64 0 ∧ y = .int .i64 (svalB (xs.take 1))) (fun _ i => 1 - (intOf i).toNat)
          case atStart => exact ⟨rfl, by rw [HST.out]⟩
          case round =>
            obtain ⟨rfl, rfl⟩ := hrel
            go_wp2
            go_ret2
            rw [HE.out.1, HE.out.2.1, ← HF.out]
            exact ⟨rfl, rfl⟩
        · obtain ⟨m, rfl⟩ : ∃ m, n = m + 1 := ⟨n - 1, by omega⟩
          go_enter Try.func38, Try.ntmps38
          go_wp2_with (go_at_call 57; refine HE.out.2.2.mono ?_; rintro e w' ⟨rfl, rfl⟩)
          go_loop [4, 27] (fun y i => ∃ k : Nat, k ≤ m ∧ i = .int .i64 k ∧ y = .int .i64 (svalB (xs.take (k + 1)))) (fun _ i => m - (intOf i).toNat)
          case atStart => exact ⟨0, by omega, rfl, by rw [HST.out]⟩
          case round =>
            obtain ⟨k, hk, rfl, rfl⟩ := hrel
            by_cases hlt : k < m
            · obtain ⟨y, hy⟩ : ∃ y, xs[k + 1]? = some y := ⟨_, List.getElem?_eq_getElem (by rw [HN.out]; omega)⟩
              have cy := HC.out.1 (k + 1) y hy
              rw [show off + (k + 1) = off + 1 + k from by omega] at cy
              obtain ⟨hy0, hy1⟩ := HX.out y (List.mem_of_getElem? hy)
              obtain ⟨hv0, hv1⟩ := svalB_take_range xs k HX.out (by omega) (by rw [HN.out]; omega)
              have hst := svalB_take_succ xs k y hy
              generalize svalB (xs.take (k + 1)) = u at hst hv0 hv1
              have HV := Lib.hid hst
              clear hst hy
              go_wp2
              exact ⟨⟨k + 1, by omega, by go_num, by rw [HV.out]; rw [or_i64 _ _ (by omega) (by omega) (by omega) hy0 hy1]⟩, by simp only [intOf]; omega⟩
            · have ht : svalB (xs.take (k + 1)) = svalB xs := by rw [List.take_of_length_le (by rw [HN.out]; omega)]
              have HT := Lib.hid ht
              clear ht
              go_wp2
              go_ret2
              rw [HE.out.1, HE.out.2.1, ← HT.out]
              exact ⟨rfl, rfl⟩

/-! ### The reference -/
def accU (xs : List Int) (neg : Int) (k : Nat) : Int := (valB (xs.take k) - neg * 2 ^ (8 * k)) % 18446744073709551616
theorem accU_range (xs : List Int) (neg : Int) (k : Nat) : 0 ≤ accU xs neg k ∧ accU xs neg k < 18446744073709551616 := by unfold accU; omega
theorem accU_pos (xs : List Int) : accU xs 0 0 = 0 := by simp [accU, valB]
theorem accU_neg (xs : List Int) : accU xs 1 0 = 18446744073709551615 := by simp [accU, valB]
theorem accU_succ (xs : List Int) (neg : Int) (k : Nat) (y : Int) (h : xs[k]? = some y) (h0 : 0 ≤ y) (h1 : y < 256) : Go.bits .or .u64 (IntKind.u64.wrap (accU xs neg k * 256)) y = accU xs neg (k + 1) := by
  have hw : ∀ z, IntKind.u64.wrap z = z % 18446744073709551616 := fun z => by simp [IntKind.wrap, IntKind.bits, IntKind.signed]
  rw [hw, or_u64 _ _ (by omega) (by omega) (by omega) h0 h1]
  unfold accU
  rw [valB_take_succ xs k y h, pow8_succ]
  have e : neg * (2 ^ (8 * k) * 256) = neg * 2 ^ (8 * k) * 256 := by rw [Int.mul_assoc]
  rw [e]
  omega
theorem accU_last (xs : List Int) (neg x : Int) (n : Nat) (hn : xs.length = n) (hx0 : xs[0]? = some x) (hneg : neg = if 128 ≤ x then 1 else 0) (h8 : n ≤ 8) (h : ∀ x ∈ xs, 0 ≤ x ∧ x < 256) : wrap64 (accU xs neg n) = svalB xs := by
  have hne : xs ≠ [] := by intro e; rw [e] at hx0; cases hx0
  have hr := sfits_i64 _ _ (svalB_range xs hne h) (by omega)
  have hhd : xs.headD 0 = x := by rw [List.headD_eq_head?_getD, List.head?_eq_getElem?, hx0]; rfl
  have hs : svalB xs = valB (xs.take n) - neg * 2 ^ (8 * n) := by
    unfold svalB
    rw [hhd, List.take_of_length_le (by omega), hn, hneg]
    split <;> omega
  unfold accU
  rw [← hs]
  unfold wrap64
  omega

set_option maxHeartbeats 800000 in
theorem rfsigned_calls (v : Value) (xs : List Int) (w : World) (hr : Reads8 w v xs) (hx : ∀ x ∈ xs, 0 ≤ x ∧ x < 256) :
    Calls Try.prog 39 #[v] w fun e w' => e = .returned (.tuple #[.int .i64 (sVal xs), .int .i64 (sErr xs)]) ∧ w = w' := by
  have HX := Lib.hid hx
  obtain ⟨A, c, rfl, hc, hcm, hcell⟩ := reads_form hr
  obtain ⟨n, hn⟩ : ∃ n, xs.length = n := ⟨_, rfl⟩
  rw [hn] at hc hcell ⊢
  have hm : n ≤ 9223372036854775807 := by omega
  have HN := Lib.hid hn
  clear hx hn hr
  by_cases h0 : n = 0
  · subst h0
    have he : sErr xs = 3 := by unfold sErr; rw [if_pos (.inl (List.eq_nil_of_length_eq_zero HN.out))]
    have hv : sVal xs = 0 := by unfold sVal; rw [he]; rfl
    have HE := Lib.hid (And.intro he hv)
    clear he hv hcell
    go_enter Try.func39, Try.ntmps39
    go_wp2
    go_ret2
    rw [HE.out.1, HE.out.2]
    exact ⟨rfl, rfl⟩
  · obtain ⟨x, hx0⟩ : ∃ x, xs[0]? = some x := ⟨_, List.getElem?_eq_getElem (by rw [HN.out]; omega)⟩
    obtain ⟨g, off, rfl, hcel⟩ := hcell (by omega)
    clear hcell
    have cx : w.cell? ⟨g, off, none⟩ = some (.int .u8 x) := hcel 0 _ hx0
    obtain ⟨hx1, hx2⟩ := HX.out x (List.mem_of_getElem? hx0)
    have hz : ((n : Int) == 0) = false := by rw [beq_eq_false_iff_ne]; omega
    have hxne : xs ≠ [] := by intro e; rw [e] at hx0; cases hx0
    have HC := Lib.hid (And.intro hcel (And.intro hx0 hxne))
    clear hcel hx0 hxne
    -- the tests on the first two octets, as Bools
    have htest : ∃ y : Int, (1 < n → w.cell? ⟨g, off + 1, none⟩ = some (.int .u8 y)) ∧ 0 ≤ y ∧ y < 256 ∧
        alikeB xs = (decide (1 < n) && ((x == 0 && decide (y < 128)) || (x == 255 && decide (128 ≤ y)))) := by
      have hx0 := HC.out.2.1
      have hn := HN.out
      match xs, hx0, hn with
      | [a], _, hn => exact ⟨0, fun h => by simp at hn; omega, by decide, by decide, by simp at hn; subst hn; simp [alikeB]⟩
      | a :: b :: t, hx0, hn =>
        simp only [List.getElem?_cons_zero, Option.some.injEq] at hx0
        subst hx0
        obtain ⟨h1, h2⟩ := HX.out b (by simp)
        have hn1 : decide (1 < n) = true := by simp at hn ⊢; omega
        exact ⟨b, fun _ => HC.out.1 1 b rfl, h1, h2, by rw [hn1, Bool.true_and]; rfl⟩
    obtain ⟨y, cy, hy0, hy1, hab⟩ := htest
    have HAB := Lib.hid hab
    clear hab
    cases hal : alikeB xs with
    | true =>
      have he : sErr xs = 3 := by unfold sErr; rw [if_pos (.inr hal)]
      have hv : sVal xs = 0 := by unfold sVal; rw [he]; rfl
      have HE := Lib.hid (And.intro he hv)
      have hb := HAB.out
      rw [hal] at hb
      clear he hv hal
      have hb2 : 1 < n ∧ ((x = 0 ∧ y < 128) ∨ (x = 255 ∧ 128 ≤ y)) := by
        simp only [Bool.and_eq_true, Bool.or_eq_true, decide_eq_true_eq, beq_iff_eq, Eq.comm (a := true)] at hb
        exact hb
      clear hb
      obtain ⟨hn1, hb⟩ := hb2
      have cy' := cy hn1
      clear cy
      have hng : ((n : Int) > 1) := by omega
      rcases hb with ⟨rfl, hy⟩ | ⟨rfl, hy⟩
      · go_enter Try.func39, Try.ntmps39
        go_wp2
        go_ret2
        rw [HE.out.1, HE.out.2]
        exact ⟨rfl, rfl⟩
      · go_enter Try.func39, Try.ntmps39
        go_wp2
        go_ret2
        rw [HE.out.1, HE.out.2]
        exact ⟨rfl, rfl⟩
    | false =>
      have hno : ¬ (xs = [] ∨ alikeB xs = true) := by rw [hal]; simp [HC.out.2.2]
      have hcase : (n ≤ 1) ∨ (1 < n ∧ x = 0 ∧ 128 ≤ y) ∨ (1 < n ∧ x = 255 ∧ y < 128) ∨ (1 < n ∧ (x == 0) = false ∧ (x == 255) = false) := by
        have hb := HAB.out
        rw [hal] at hb
        by_cases h1 : 1 < n
        · by_cases hx0 : x = 0
          · refine .inr (.inl ⟨h1, hx0, ?_⟩)
            subst hx0
            simp [h1] at hb
            omega
          · by_cases hx5 : x = 255
            · refine .inr (.inr (.inl ⟨h1, hx5, ?_⟩))
              subst hx5
              simp [h1] at hb
              omega
            · exact .inr (.inr (.inr ⟨h1, by simpa using hx0, by simpa using hx5⟩))
        · exact .inl (by omega)
      by_cases h8 : 8 < n
      · have he : sErr xs = 11 := by unfold sErr; rw [if_neg hno, if_pos (by rw [HN.out]; exact h8)]
        have hv : sVal xs = 0 := by unfold sVal; rw [he]; rfl
        have HE := Lib.hid (And.intro he hv)
        clear he hv hal hno
        rcases hcase with h1 | ⟨h1, rfl, h2⟩ | ⟨h1, rfl, h2⟩ | ⟨h1, t0, t5⟩
        · omega
        all_goals
          have cy' := cy h1
          clear cy
          go_enter Try.func39, Try.ntmps39
          go_wp2
          go_ret2
          rw [HE.out.1, HE.out.2]
          exact ⟨rfl, rfl⟩
      · have he : sErr xs = 0 := by unfold sErr; rw [if_neg hno, if_neg (by rw [HN.out]; exact h8)]
        have hv : sVal xs = svalB xs := by unfold sVal; rw [he]; rfl
        have HE := Lib.hid (And.intro he hv)
        clear he hv hal hno
        by_cases hp : 128 ≤ x
        · have hfin := accU_last xs 1 x n HN.out HC.out.2.1 (by rw [if_pos hp]) (by omega) HX.out
          have HF := Lib.hid hfin
          clear hfin
          rcases hcase with h1 | ⟨h1, rfl, h2⟩ | ⟨h1, rfl, h2⟩ | ⟨h1, t0, t5⟩
          · clear cy
            go_enter Try.func39, Try.ntmps39
            go_wp2
            go_loop [4, 5] (fun u i => ∃ k : Nat, k ≤ n ∧ i = .int .i64 k ∧ u = .int .u64 (accU xs 1 k)) (fun _ i => n - (intOf i).toNat)
            case atStart => exact ⟨0, by omega, rfl, by rw [accU_neg]⟩
            case round =>
              obtain ⟨k, hk, rfl, rfl⟩ := hrel
              by_cases hlt : k < n
              · obtain ⟨z, hzk⟩ : ∃ z, xs[k]? = some z := ⟨_, List.getElem?_eq_getElem (by rw [HN.out]; omega)⟩
                have cz := HC.out.1 k z hzk
                obtain ⟨hz0, hz1⟩ := HX.out z (List.mem_of_getElem? hzk)
                have hst := accU_succ xs 1 k z hzk hz0 hz1
                generalize accU xs 1 k = u at hst
                have HV := Lib.hid hst
                clear hst hzk
                go_wp2
                exact ⟨⟨k + 1, by omega, by go_num, by rw [← HV.out]⟩, by simp only [intOf]; omega⟩
              · obtain rfl : k = n := by omega
                go_wp2
                go_ret2
                rw [HE.out.1, HE.out.2, ← HF.out]
                exact ⟨rfl, rfl⟩
          · omega
          all_goals
            have cy' := cy h1
            clear cy
            go_enter Try.func39, Try.ntmps39
            go_wp2
            go_loop [4, 5] (fun u i => ∃ k : Nat, k ≤ n ∧ i = .int .i64 k ∧ u = .int .u64 (accU xs 1 k)) (fun _ i => n - (intOf i).toNat)
            case atStart => exact ⟨0, by omega, rfl, by rw [accU_neg]⟩
            case round =>
              obtain ⟨k, hk, rfl, rfl⟩ := hrel
              by_cases hlt : k < n
              · obtain ⟨z, hzk⟩ : ∃ z, xs[k]? = some z := ⟨_, List.getElem?_eq_getElem (by rw [HN.out]; omega)⟩
                have cz := HC.out.1 k z hzk
                obtain ⟨hz0, hz1⟩ := HX.out z (List.mem_of_getElem? hzk)
                have hst := accU_succ xs 1 k z hzk hz0 hz1
                generalize accU xs 1 k = u at hst
                have HV := Lib.hid hst
                clear hst hzk
                go_wp2
                exact ⟨⟨k + 1, by omega, by go_num, by rw [← HV.out]⟩, by simp only [intOf]; omega⟩
              · obtain rfl : k = n := by omega
                go_wp2
                go_ret2
                rw [HE.out.1, HE.out.2, ← HF.out]
                exact ⟨rfl, rfl⟩
        · have hfin := accU_last xs 0 x n HN.out HC.out.2.1 (by rw [if_neg hp]) (by omega) HX.out
          have HF := Lib.hid hfin
          clear hfin
          rcases hcase with h1 | ⟨h1, rfl, h2⟩ | ⟨h1, rfl, h2⟩ | ⟨h1, t0, t5⟩
          · clear cy
            go_enter Try.func39, Try.ntmps39
            go_wp2
            go_loop [4, 5] (fun u i => ∃ k : Nat, k ≤ n ∧ i = .int .i64 k ∧ u = .int .u64 (accU xs 0 k)) (fun _ i => n - (intOf i).toNat)
            case atStart => exact ⟨0, by omega, rfl, by rw [accU_pos]⟩
            case round =>
              obtain ⟨k, hk, rfl, rfl⟩ := hrel
              by_cases hlt : k < n
              · obtain ⟨z, hzk⟩ : ∃ z, xs[k]? = some z := ⟨_, List.getElem?_eq_getElem (by rw [HN.out]; omega)⟩
                have cz := HC.out.1 k z hzk
                obtain ⟨hz0, hz1⟩ := HX.out z (List.mem_of_getElem? hzk)
                have hst := accU_succ xs 0 k z hzk hz0 hz1
                generalize accU xs 0 k = u at hst
                have HV := Lib.hid hst
                clear hst hzk
                go_wp2
                exact ⟨⟨k + 1, by omega, by go_num, by rw [← HV.out]⟩, by simp only [intOf]; omega⟩
              · obtain rfl : k = n := by omega
                go_wp2
                go_ret2
                rw [HE.out.1, HE.out.2, ← HF.out]
                exact ⟨rfl, rfl⟩
          rotate_left
          · omega
          all_goals
            have cy' := cy h1
            clear cy
            go_enter Try.func39, Try.ntmps39
            go_wp2
            go_loop [4, 5] (fun u i => ∃ k : Nat, k ≤ n ∧ i = .int .i64 k ∧ u = .int .u64 (accU xs 0 k)) (fun _ i => n - (intOf i).toNat)
            case atStart => exact ⟨0, by omega, rfl, by rw [accU_pos]⟩
            case round =>
              obtain ⟨k, hk, rfl, rfl⟩ := hrel
              by_cases hlt : k < n
              · obtain ⟨z, hzk⟩ : ∃ z, xs[k]? = some z := ⟨_, List.getElem?_eq_getElem (by rw [HN.out]; omega)⟩
                have cz := HC.out.1 k z hzk
                obtain ⟨hz0, hz1⟩ := HX.out z (List.mem_of_getElem? hzk)
                have hst := accU_succ xs 0 k z hzk hz0 hz1
                generalize accU xs 0 k = u at hst
                have HV := Lib.hid hst
                clear hst hzk
                go_wp2
                exact ⟨⟨k + 1, by omega, by go_num, by rw [← HV.out]⟩, by simp only [intOf]; omega⟩
              · obtain rfl : k = n := by omega
                go_wp2
                go_ret2
                rw [HE.out.1, HE.out.2, ← HF.out]
                exact ⟨rfl, rfl⟩
end Go.Proofs.Ytomjgjdnlbpleaa.Oct
