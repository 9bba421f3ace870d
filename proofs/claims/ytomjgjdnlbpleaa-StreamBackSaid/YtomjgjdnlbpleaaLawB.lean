/- StreamParts: the walk of the law. -/
import Derived.Test.YtomjgjdnlbpleaaLawA
namespace Go.Proofs.Ytomjgjdnlbpleaa.Stream
open Go.RowKit Go.Proofs.Ytomjgjdnlbpleaa.Sep Go.Proofs.Ytomjgjdnlbpleaa.Bits Go.Proofs.Ytomjgjdnlbpleaa.Num
variable {B : Nat} {w0 w : World} {R : HP} {a : Nat} {bits : List Bool}

theorem i64_mask (x : Int) (i : Nat) (hi : i ≤ 62) : Go.bits .and .i64 x (2 ^ i - 1) = x % 2 ^ i := by
  have hp : (0 : Int) < 2 ^ i := Int.pow_pos (by decide)
  have hpos : 0 < 2 ^ i := Nat.two_pow_pos i
  have hle : 2 ^ i ≤ 2 ^ 62 := Nat.pow_le_pow_right (by decide) hi
  have hb : ((2 : Int) ^ i - 1) = ((2 ^ i - 1 : Nat) : Int) := by rw [Int.natCast_sub hpos]; simp
  have hle2 : (2 : Nat) ^ 62 < 2 ^ 64 := by decide
  have hm : (2 ^ i - 1) % 2 ^ 64 = 2 ^ i - 1 := Nat.mod_eq_of_lt (by omega)
  have e1 : (BitVec.ofInt 64 x).toNat % 2 ^ i = (x % 2 ^ i).toNat := by
    rw [BitVec.toNat_ofInt]
    have h1 : (0 : Int) ≤ x % ((2 ^ 64 : Nat) : Int) := Int.emod_nonneg _ (by decide)
    have hd : ((2 : Int) ^ i) ∣ ((2 ^ 64 : Nat) : Int) := by
      refine ⟨2 ^ (64 - i), ?_⟩
      rw [← Int.pow_add]
      have : i + (64 - i) = 64 := by omega
      rw [this]; rfl
    have h2 : ((x % ((2 ^ 64 : Nat) : Int)).toNat % 2 ^ i : Nat) = (x % 2 ^ i).toNat := by
      have h3 : (((x % ((2 ^ 64 : Nat) : Int)).toNat % 2 ^ i : Nat) : Int) = x % 2 ^ i := by
        rw [Int.natCast_emod, Int.toNat_of_nonneg h1]
        have : ((2 ^ i : Nat) : Int) = 2 ^ i := by simp
        rw [this, Int.emod_emod_of_dvd _ hd]
      omega
    exact h2
  have hr0 := Int.emod_nonneg x (Int.ne_of_gt hp)
  have hr1 := Int.emod_lt_of_pos x hp
  have h62 : (2 : Int) ^ i ≤ 4611686018427387904 := by
    have : ((2 ^ i : Nat) : Int) ≤ ((2 ^ 62 : Nat) : Int) := Int.ofNat_le.2 hle
    simpa using this
  show IntKind.i64.wrap ((BitVec.ofInt 64 x &&& BitVec.ofInt 64 (2 ^ i - 1)).toNat : Int) = _
  rw [BitVec.toNat_and, hb, BitVec.ofInt_natCast, BitVec.toNat_ofNat, hm, Nat.and_two_pow_sub_one_eq_mod, e1, Int.toNat_of_nonneg hr0, IntKind.wrap_i64]
  omega
theorem i64_and63 (x : Int) : Go.bits .and .i64 x 63 = x % 64 := i64_mask x 6 (by decide)

theorem putB_append (v : Int) (p q : Nat) : putB v (p + q) = putB (v / 2 ^ q) p ++ putB v q := by
  induction q generalizing v with
  | zero => simp [putB]
  | succ q ih =>
    rw [← Nat.add_assoc, putB, ih, putB, Int.pow_succ, Int.mul_comm, ← Int.ediv_ediv_of_nonneg (by decide), List.append_assoc]
theorem putB_mod (v : Int) (q : Nat) : putB (v % 2 ^ q) q = putB v q := by
  induction q generalizing v with
  | zero => rfl
  | succ q ih =>
    have hp : (0 : Int) < 2 ^ q := Int.pow_pos (by decide)
    have e := emod_two_mul v (2 ^ q) hp
    have e1 : v % 2 ^ (q + 1) / 2 = v / 2 % 2 ^ q := by rw [Int.pow_succ, Int.mul_comm, e]; omega
    have e2 : v % 2 ^ (q + 1) % 2 = v % 2 := by rw [Int.pow_succ, Int.mul_comm, e]; omega
    rw [putB, putB, e1, e2, ih]

theorem put_facts (v : Int) (n : Nat) (l : List Bool) (hn : n ≤ 64) (hw : wideB v n = false) : putErr v n = 0 ∧ putL l v n = l ++ putB v n := by
  have he : putErr v n = 0 := by unfold putErr; rw [if_neg (by rw [hw]; simp; omega)]
  exact ⟨he, by rw [putL, he]; simp⟩
theorem wide_of (v : Int) (n : Nat) (h : v / 2 ^ n = 0) : wideB v n = false := by simp [wideB, h]

theorem mask_u64 (v : Int) (k : Nat) (hk : k < 64) (h0 : 0 ≤ v) (h1 : v < 18446744073709551616) : Go.bits .and .u64 v (IntKind.u64.wrap (IntKind.u64.wrap (2 ^ k) - 1)) = v % 2 ^ k := by
  have hp : (0 : Int) < 2 ^ k := Int.pow_pos (by decide)
  have hle : (2 : Int) ^ k ≤ 2 ^ 63 := by
    have := Nat.pow_le_pow_right (show 0 < 2 by decide) (show k ≤ 63 by omega)
    exact_mod_cast this
  have h63 : (2 : Int) ^ 63 < 2 ^ 64 := by decide
  rw [wraps_u64 (2 ^ k) (by omega) (by omega), wraps_u64 (2 ^ k - 1) (by omega) (by omega)]
  exact bits_mask .u64 64 (by decide) wraps_u64 k (by omega) v h0 h1
theorem mod_pow_range (v : Int) (k : Nat) (hk : k < 64) : 0 ≤ v % 2 ^ k ∧ v % 2 ^ k < 2 ^ k ∧ v % 2 ^ k < 18446744073709551616 := by
  have hp : (0 : Int) < 2 ^ k := Int.pow_pos (by decide)
  have hle : (2 : Int) ^ k ≤ 2 ^ 63 := by
    have := Nat.pow_le_pow_right (show 0 < 2 by decide) (show k ≤ 63 by omega)
    exact_mod_cast this
  have h63 : (2 : Int) ^ 63 < 18446744073709551616 := by decide
  have := Int.emod_lt_of_pos v hp
  exact ⟨Int.emod_nonneg _ (Int.ne_of_gt hp), this, by omega⟩

set_option maxHeartbeats 1000000 in
theorem parts_main (v width cut : Int) (n m k : Nat) (xs : List Int) (A : Option Addr) (c : Nat) (hv0 : 0 ≤ v) (hv1 : v < 18446744073709551616) (w : World) (hn : Go.bits .and .i64 width 63 = n) (hm : Go.bits .and .i64 cut 63 = m) (hn64 : n < 64) (hm64 : m < 64) (hkn : k ≤ n)
    (hk : m < n ∧ k = m ∨ n ≤ m ∧ k = n) (_hc : xs.length ≤ c) (hl : xs.length ≤ 140737488355328) (H0 : St w.heap.size w w emp) (hr : ∀ w', St w.heap.size w w' emp → Reads8 w' (.slice A xs.length c) xs) (hx : ∀ x ∈ xs, 0 ≤ x ∧ x < 256) :
    Calls Try.prog 4 #[.int .u64 v, .int .i64 width, .int .i64 cut, .slice A xs.length c] w fun e w' => e = .returned (.bool true) ∧ Below w.heap.size w w' := by
  have H := Lib.hid H0
  have HR := Lib.hid (And.intro hr hx)
  clear H0 hr hx
  have hxl : xs.length ≤ 9223372036854775807 := by omega
  by_cases hb1 : v / 2 ^ n > 0
  · clear hk
    go_enter Try.func4, Try.ntmps4
    go_wp2_with (go_at_call 15; refine (awake_calls H.out).mono ?_; rintro e w1 ⟨rfl, h2⟩; have H2 := Lib.hid h2; clear h2)
    all_goals
      go_ret
      exact ⟨rfl, H2.out.below⟩
  · have hv : v / 2 ^ n = 0 := by have := (div_pow_range v hv0 hv1 n).1; omega
    by_cases hb2 : xs.length > 100
    · clear hk hv
      go_enter Try.func4, Try.ntmps4
      go_wp2_with (go_at_call 15; refine (awake_calls H.out).mono ?_; rintro e w1 ⟨rfl, h2⟩; have H2 := Lib.hid h2; clear h2)
      all_goals
        go_ret
        exact ⟨rfl, H2.out.below⟩
    · have HV := Lib.hid hv
      clear hv
      obtain ⟨p, hp⟩ : ∃ p : Nat, n - k = p := ⟨_, rfl⟩
      have hpk : n = p + k := by omega
      have HK := Lib.hid (And.intro hpk hp)
      have hkm : ((m : Int) < n ∧ k = m) ∨ ((n : Int) < m ∧ k = n) ∨ (n = m ∧ k = n) := by omega
      rcases hkm with ⟨hlt, rfl⟩ | ⟨hge, rfl⟩ | ⟨rfl, rfl⟩
      · have hz1 : ((p : Nat) : Int) ≤ 64 := by omega
        clear hk hp hpk
        go_enter Try.func4, Try.ntmps4
        go_wp2_with fail
        refine (awake_calls H.out).mono ?_
        rintro e w1 ⟨rfl, h2⟩
        have H2 := Lib.hid (fresh (fresh h2 w1.heap.size rfl) (w1.heap.size + 1) (by simp)).two
        clear h2
        go_wp2_with fail
        refine (put_any v n hv0 hv1 (by decide) H2.out).mono ?_
        obtain ⟨e1, e2⟩ := put_facts v n [] (by omega) (wide_of v n HV.out)
        rw [e1, e2]
        clear e1 e2
        rintro e w2 ⟨rfl, h2⟩
        have H3 := Lib.hid h2.two
        clear h2 H2
        go_wp2_with fail
        rw [show ((n : Int) - k) = (p : Int) from by have := HK.out.1; omega]
        refine (put_any (v / 2 ^ k) (p : Nat) (div_pow_range v hv0 hv1 _).1 (div_pow_range v hv0 hv1 _).2 (by decide) H3.out).mono ?_
        obtain ⟨e1, e2⟩ := put_facts (v / 2 ^ k) p [] (by omega) (wide_of _ _ (by rw [Int.ediv_ediv_of_nonneg (Int.le_of_lt (Int.pow_pos (by decide))), ← Int.pow_add, Nat.add_comm, ← HK.out.1]; exact HV.out))
        rw [e1, e2]
        clear e1 e2
        rintro e w3 ⟨rfl, h2⟩
        have H4 := Lib.hid h2
        clear h2 H3
        go_wp2_with fail
        rw [mask_u64 v k (by omega) hv0 hv1]
        have hq := mod_pow_range v k (by omega)
        refine (put_any (v % 2 ^ k) k hq.1 (by omega) (by rw [List.nil_append, putB_length]; omega) H4.out).mono ?_
        obtain ⟨e1, e2⟩ := put_facts (v % 2 ^ k) k ([] ++ putB (v / 2 ^ k) p) (by omega) (wide_of _ _ (Int.ediv_eq_zero_of_lt hq.1 hq.2.1))
        rw [e1, e2, putB_mod, List.append_assoc, ← putB_append, ← HK.out.1]
        clear e1 e2 hq
        rintro e w4 ⟨rfl, h2⟩
        have H5 := Lib.hid h2.two
        clear h2 H4
        go_wp2_with fail
        refine (octets_calls _ xs H5.out (fun w' h' => HR.out.1 w' h'.drop) HR.out.2 (by rw [List.nil_append, putB_length]; omega) (by omega)).mono ?_
        rintro e w5 ⟨rfl, h2⟩
        have H6 := Lib.hid h2.two
        clear h2 H5
        generalize hL : [] ++ putB v n = L at H6
        have hLl : L.length ≤ 64 := by rw [← hL, List.nil_append, putB_length]; omega
        clear hL
        go_wp2_with fail
        go_loopw [17] (fun i wr => ∃ q : Nat, q ≤ xs.length ∧ i = .int .i64 q ∧ Hid (St w.heap.size w wr (Wr (w1.heap.size + 1) (L ++ unpack (xs.take q)) • Wr w1.heap.size (L ++ unpack xs) • emp))) (fun i _ => xs.length - (intOf i).toNat)
        case atStart => exact ⟨0, Nat.zero_le _, rfl, Lib.hid (by simpa [unpack] using H6.out)⟩
        case round =>
          clear H6
          obtain ⟨q, hq, rfl, H6⟩ := hrel
          by_cases hqlt : q < xs.length
          · obtain ⟨x, hxk⟩ : ∃ x, xs[q]? = some x := ⟨_, List.getElem?_eq_getElem hqlt⟩
            obtain ⟨_, A', c', e, _, _, hcell⟩ := HR.out.1 _ H6.out.drop.drop
            obtain ⟨ad, e2, hcx⟩ := hcell q _ (by rw [List.getElem?_map, hxk]; rfl)
            simp only [Value.slice.injEq] at e
            obtain ⟨rfl, -, -⟩ := e
            subst e2
            have hxr := HR.out.2 x (List.mem_of_getElem? hxk)
            have HXK := Lib.hid (And.intro hxk hxr)
            obtain ⟨hx0, hx1⟩ := hxr
            clear hcell hxk
            go_wp2_with fail
            refine (put_any x 8 (by omega) (by omega) (by rw [List.length_append, unpack_length, List.length_take]; omega) H6.out).mono ?_
            obtain ⟨e1, e2⟩ := put_facts x 8 (L ++ unpack (xs.take q)) (by omega) (wide8 x HXK.out.2)
            rw [show ((8 : Nat) : Int) = 8 from rfl] at e1 e2
            rw [e1, e2, List.append_assoc, ← unpack_take_succ xs q x HXK.out.1]
            clear e1 e2
            rintro e w6 ⟨rfl, h2⟩
            have H7 := Lib.hid h2
            clear h2
            go_wp2_with fail
            exact ⟨⟨q + 1, by omega, by go_num, H7⟩, by simp [intOf]; omega⟩
          · have h6 := H6.out
            rw [List.take_of_length_le (by omega)] at h6
            have H7 := Lib.hid h6
            clear h6 H6
            have hZ : (L ++ unpack xs).length ≤ 1000000000000 := by rw [List.length_append, unpack_length]; omega
            generalize L ++ unpack xs = Z at H7 hZ
            go_wp2_with fail
            refine (writer_len H7.out.two).mono ?_
            rintro e w' ⟨rfl, rfl⟩
            go_wp2_with fail
            refine (writer_len H7.out).mono ?_
            rintro e w' ⟨rfl, rfl⟩
            go_wp2_with fail
            refine (bytes_calls H7.out.two hZ).mono ?_
            rintro e w7 ⟨v7, rfl, h2⟩
            have H8 := Lib.hid h2.three
            clear h2
            go_wp2_with fail
            refine (bytes_calls H8.out hZ).mono ?_
            rintro e w8 ⟨v8, rfl, h2⟩
            have H9 := Lib.hid h2
            clear h2
            go_wp2_with fail
            refine (same_eq v7 v8 _ _ H9.out.three.reads H9.out.reads).mono ?_
            rintro e w' ⟨rfl, rfl⟩
            go_wp2_with fail
            go_ret
            exact ⟨rfl, H9.out.below⟩
      · obtain rfl : p = 0 := by omega
        have hz1 : ((0 : Nat) : Int) ≤ 64 := by omega
        clear hk hp hpk
        go_enter Try.func4, Try.ntmps4
        go_wp2_with fail
        refine (awake_calls H.out).mono ?_
        rintro e w1 ⟨rfl, h2⟩
        have H2 := Lib.hid (fresh (fresh h2 w1.heap.size rfl) (w1.heap.size + 1) (by simp)).two
        clear h2
        go_wp2_with fail
        refine (put_any v k hv0 hv1 (by decide) H2.out).mono ?_
        obtain ⟨e1, e2⟩ := put_facts v k [] (by omega) (wide_of v k HV.out)
        rw [e1, e2]
        clear e1 e2
        rintro e w2 ⟨rfl, h2⟩
        have H3 := Lib.hid h2.two
        clear h2 H2
        go_wp2_with fail
        refine (put_any (v / 2 ^ k) (0 : Nat) (div_pow_range v hv0 hv1 _).1 (div_pow_range v hv0 hv1 _).2 (by decide) H3.out).mono ?_
        obtain ⟨e1, e2⟩ := put_facts (v / 2 ^ k) 0 [] (by omega) (wide_of _ _ (by rw [Int.ediv_ediv_of_nonneg (Int.le_of_lt (Int.pow_pos (by decide))), ← Int.pow_add, Nat.add_comm, ← HK.out.1]; exact HV.out))
        rw [e1, e2]
        clear e1 e2
        rintro e w3 ⟨rfl, h2⟩
        have H4 := Lib.hid h2
        clear h2 H3
        go_wp2_with fail
        rw [mask_u64 v k (by omega) hv0 hv1]
        have hq := mod_pow_range v k (by omega)
        refine (put_any (v % 2 ^ k) k hq.1 (by omega) (by rw [List.nil_append, putB_length]; omega) H4.out).mono ?_
        obtain ⟨e1, e2⟩ := put_facts (v % 2 ^ k) k ([] ++ putB (v / 2 ^ k) 0) (by omega) (wide_of _ _ (Int.ediv_eq_zero_of_lt hq.1 hq.2.1))
        rw [e1, e2, putB_mod, List.append_assoc, ← putB_append, ← HK.out.1]
        clear e1 e2 hq
        rintro e w4 ⟨rfl, h2⟩
        have H5 := Lib.hid h2.two
        clear h2 H4
        go_wp2_with fail
        refine (octets_calls _ xs H5.out (fun w' h' => HR.out.1 w' h'.drop) HR.out.2 (by rw [List.nil_append, putB_length]; omega) (by omega)).mono ?_
        rintro e w5 ⟨rfl, h2⟩
        have H6 := Lib.hid h2.two
        clear h2 H5
        generalize hL : [] ++ putB v k = L at H6
        have hLl : L.length ≤ 64 := by rw [← hL, List.nil_append, putB_length]; omega
        clear hL
        go_wp2_with fail
        go_loopw [17] (fun i wr => ∃ q : Nat, q ≤ xs.length ∧ i = .int .i64 q ∧ Hid (St w.heap.size w wr (Wr (w1.heap.size + 1) (L ++ unpack (xs.take q)) • Wr w1.heap.size (L ++ unpack xs) • emp))) (fun i _ => xs.length - (intOf i).toNat)
        case atStart => exact ⟨0, Nat.zero_le _, rfl, Lib.hid (by simpa [unpack] using H6.out)⟩
        case round =>
          clear H6
          obtain ⟨q, hq, rfl, H6⟩ := hrel
          by_cases hqlt : q < xs.length
          · obtain ⟨x, hxk⟩ : ∃ x, xs[q]? = some x := ⟨_, List.getElem?_eq_getElem hqlt⟩
            obtain ⟨_, A', c', e, _, _, hcell⟩ := HR.out.1 _ H6.out.drop.drop
            obtain ⟨ad, e2, hcx⟩ := hcell q _ (by rw [List.getElem?_map, hxk]; rfl)
            simp only [Value.slice.injEq] at e
            obtain ⟨rfl, -, -⟩ := e
            subst e2
            have hxr := HR.out.2 x (List.mem_of_getElem? hxk)
            have HXK := Lib.hid (And.intro hxk hxr)
            obtain ⟨hx0, hx1⟩ := hxr
            clear hcell hxk
            go_wp2_with fail
            refine (put_any x 8 (by omega) (by omega) (by rw [List.length_append, unpack_length, List.length_take]; omega) H6.out).mono ?_
            obtain ⟨e1, e2⟩ := put_facts x 8 (L ++ unpack (xs.take q)) (by omega) (wide8 x HXK.out.2)
            rw [show ((8 : Nat) : Int) = 8 from rfl] at e1 e2
            rw [e1, e2, List.append_assoc, ← unpack_take_succ xs q x HXK.out.1]
            clear e1 e2
            rintro e w6 ⟨rfl, h2⟩
            have H7 := Lib.hid h2
            clear h2
            go_wp2_with fail
            exact ⟨⟨q + 1, by omega, by go_num, H7⟩, by simp [intOf]; omega⟩
          · have h6 := H6.out
            rw [List.take_of_length_le (by omega)] at h6
            have H7 := Lib.hid h6
            clear h6 H6
            have hZ : (L ++ unpack xs).length ≤ 1000000000000 := by rw [List.length_append, unpack_length]; omega
            generalize L ++ unpack xs = Z at H7 hZ
            go_wp2_with fail
            refine (writer_len H7.out.two).mono ?_
            rintro e w' ⟨rfl, rfl⟩
            go_wp2_with fail
            refine (writer_len H7.out).mono ?_
            rintro e w' ⟨rfl, rfl⟩
            go_wp2_with fail
            refine (bytes_calls H7.out.two hZ).mono ?_
            rintro e w7 ⟨v7, rfl, h2⟩
            have H8 := Lib.hid h2.three
            clear h2
            go_wp2_with fail
            refine (bytes_calls H8.out hZ).mono ?_
            rintro e w8 ⟨v8, rfl, h2⟩
            have H9 := Lib.hid h2
            clear h2
            go_wp2_with fail
            refine (same_eq v7 v8 _ _ H9.out.three.reads H9.out.reads).mono ?_
            rintro e w' ⟨rfl, rfl⟩
            go_wp2_with fail
            go_ret
            exact ⟨rfl, H9.out.below⟩
      · obtain rfl : p = 0 := by omega
        have hz1 : ((0 : Nat) : Int) ≤ 64 := by omega
        clear hk hp hpk
        go_enter Try.func4, Try.ntmps4
        go_wp2_with fail
        refine (awake_calls H.out).mono ?_
        rintro e w1 ⟨rfl, h2⟩
        have H2 := Lib.hid (fresh (fresh h2 w1.heap.size rfl) (w1.heap.size + 1) (by simp)).two
        clear h2
        go_wp2_with fail
        refine (put_any v k hv0 hv1 (by decide) H2.out).mono ?_
        obtain ⟨e1, e2⟩ := put_facts v k [] (by omega) (wide_of v k HV.out)
        rw [e1, e2]
        clear e1 e2
        rintro e w2 ⟨rfl, h2⟩
        have H3 := Lib.hid h2.two
        clear h2 H2
        go_wp2_with fail
        refine (put_any (v / 2 ^ k) (0 : Nat) (div_pow_range v hv0 hv1 _).1 (div_pow_range v hv0 hv1 _).2 (by decide) H3.out).mono ?_
        obtain ⟨e1, e2⟩ := put_facts (v / 2 ^ k) 0 [] (by omega) (wide_of _ _ (by rw [Int.ediv_ediv_of_nonneg (Int.le_of_lt (Int.pow_pos (by decide))), ← Int.pow_add, Nat.add_comm, ← HK.out.1]; exact HV.out))
        rw [e1, e2]
        clear e1 e2
        rintro e w3 ⟨rfl, h2⟩
        have H4 := Lib.hid h2
        clear h2 H3
        go_wp2_with fail
        rw [mask_u64 v k (by omega) hv0 hv1]
        have hq := mod_pow_range v k (by omega)
        refine (put_any (v % 2 ^ k) k hq.1 (by omega) (by rw [List.nil_append, putB_length]; omega) H4.out).mono ?_
        obtain ⟨e1, e2⟩ := put_facts (v % 2 ^ k) k ([] ++ putB (v / 2 ^ k) 0) (by omega) (wide_of _ _ (Int.ediv_eq_zero_of_lt hq.1 hq.2.1))
        rw [e1, e2, putB_mod, List.append_assoc, ← putB_append, ← HK.out.1]
        clear e1 e2 hq
        rintro e w4 ⟨rfl, h2⟩
        have H5 := Lib.hid h2.two
        clear h2 H4
        go_wp2_with fail
        refine (octets_calls _ xs H5.out (fun w' h' => HR.out.1 w' h'.drop) HR.out.2 (by rw [List.nil_append, putB_length]; omega) (by omega)).mono ?_
        rintro e w5 ⟨rfl, h2⟩
        have H6 := Lib.hid h2.two
        clear h2 H5
        generalize hL : [] ++ putB v k = L at H6
        have hLl : L.length ≤ 64 := by rw [← hL, List.nil_append, putB_length]; omega
        clear hL
        go_wp2_with fail
        go_loopw [17] (fun i wr => ∃ q : Nat, q ≤ xs.length ∧ i = .int .i64 q ∧ Hid (St w.heap.size w wr (Wr (w1.heap.size + 1) (L ++ unpack (xs.take q)) • Wr w1.heap.size (L ++ unpack xs) • emp))) (fun i _ => xs.length - (intOf i).toNat)
        case atStart => exact ⟨0, Nat.zero_le _, rfl, Lib.hid (by simpa [unpack] using H6.out)⟩
        case round =>
          clear H6
          obtain ⟨q, hq, rfl, H6⟩ := hrel
          by_cases hqlt : q < xs.length
          · obtain ⟨x, hxk⟩ : ∃ x, xs[q]? = some x := ⟨_, List.getElem?_eq_getElem hqlt⟩
            obtain ⟨_, A', c', e, _, _, hcell⟩ := HR.out.1 _ H6.out.drop.drop
            obtain ⟨ad, e2, hcx⟩ := hcell q _ (by rw [List.getElem?_map, hxk]; rfl)
            simp only [Value.slice.injEq] at e
            obtain ⟨rfl, -, -⟩ := e
            subst e2
            have hxr := HR.out.2 x (List.mem_of_getElem? hxk)
            have HXK := Lib.hid (And.intro hxk hxr)
            obtain ⟨hx0, hx1⟩ := hxr
            clear hcell hxk
            go_wp2_with fail
            refine (put_any x 8 (by omega) (by omega) (by rw [List.length_append, unpack_length, List.length_take]; omega) H6.out).mono ?_
            obtain ⟨e1, e2⟩ := put_facts x 8 (L ++ unpack (xs.take q)) (by omega) (wide8 x HXK.out.2)
            rw [show ((8 : Nat) : Int) = 8 from rfl] at e1 e2
            rw [e1, e2, List.append_assoc, ← unpack_take_succ xs q x HXK.out.1]
            clear e1 e2
            rintro e w6 ⟨rfl, h2⟩
            have H7 := Lib.hid h2
            clear h2
            go_wp2_with fail
            exact ⟨⟨q + 1, by omega, by go_num, H7⟩, by simp [intOf]; omega⟩
          · have h6 := H6.out
            rw [List.take_of_length_le (by omega)] at h6
            have H7 := Lib.hid h6
            clear h6 H6
            have hZ : (L ++ unpack xs).length ≤ 1000000000000 := by rw [List.length_append, unpack_length]; omega
            generalize L ++ unpack xs = Z at H7 hZ
            go_wp2_with fail
            refine (writer_len H7.out.two).mono ?_
            rintro e w' ⟨rfl, rfl⟩
            go_wp2_with fail
            refine (writer_len H7.out).mono ?_
            rintro e w' ⟨rfl, rfl⟩
            go_wp2_with fail
            refine (bytes_calls H7.out.two hZ).mono ?_
            rintro e w7 ⟨v7, rfl, h2⟩
            have H8 := Lib.hid h2.three
            clear h2
            go_wp2_with fail
            refine (bytes_calls H8.out hZ).mono ?_
            rintro e w8 ⟨v8, rfl, h2⟩
            have H9 := Lib.hid h2
            clear h2
            go_wp2_with fail
            refine (same_eq v7 v8 _ _ H9.out.three.reads H9.out.reads).mono ?_
            rintro e w' ⟨rfl, rfl⟩
            go_wp2_with fail
            go_ret
            exact ⟨rfl, H9.out.below⟩

theorem parts_calls (v width cut : Int) (vb : Value) (xs : List Int) (hv0 : 0 ≤ v) (hv1 : v < 18446744073709551616) (w : World) (hr : ∀ w', St w.heap.size w w' emp → Reads8 w' vb xs) (hx : ∀ x ∈ xs, 0 ≤ x ∧ x < 256) (hl : xs.length ≤ 140737488355328) :
    Calls Try.prog 4 #[.int .u64 v, .int .i64 width, .int .i64 cut, vb] w fun e w' => e = .returned (.bool true) ∧ Below w.heap.size w w' := by
  have H := Lib.hid (St.start w)
  obtain ⟨_, A, c, rfl, hc, hcm, _⟩ := id (hr w (St.start w))
  have HR := Lib.hid (And.intro hr hx)
  have hn := i64_and63 width
  have hm := i64_and63 cut
  obtain ⟨n, hn2⟩ := Int.eq_ofNat_of_zero_le (Int.emod_nonneg width (show (64 : Int) ≠ 0 by decide))
  obtain ⟨m, hm2⟩ := Int.eq_ofNat_of_zero_le (Int.emod_nonneg cut (show (64 : Int) ≠ 0 by decide))
  have hn64 : n < 64 := by have := Int.emod_lt_of_pos width (show (0 : Int) < 64 by decide); omega
  have hm64 : m < 64 := by have := Int.emod_lt_of_pos cut (show (0 : Int) < 64 by decide); omega
  rw [hn2] at hn
  rw [hm2] at hm
  clear hr hx hn2 hm2
  have hxl : xs.length ≤ 9223372036854775807 := by omega
  rcases Nat.lt_or_ge m n with hmn | hmn
  · exact parts_main v width cut n m m xs A c hv0 hv1 w hn hm hn64 hm64 (by omega) (.inl ⟨hmn, rfl⟩) hc hl H.out HR.out.1 HR.out.2
  · exact parts_main v width cut n m n xs A c hv0 hv1 w hn hm hn64 hm64 (by omega) (.inr ⟨hmn, rfl⟩) hc hl H.out HR.out.1 HR.out.2

end Go.Proofs.Ytomjgjdnlbpleaa.Stream
