/- The walks of layer 2: numbers read out of octets. -/
import Derived.Test.YtomjgjdnlbpleaaOctC
namespace Go.Proofs.Ytomjgjdnlbpleaa.Oct
open Go.RowKit Go.Proofs.Ytomjgjdnlbpleaa.Sep Go.Proofs.Ytomjgjdnlbpleaa.Stream
variable {B : Nat} {w0 w : World} {R : HP}

theorem valB_take_succ (xs : List Int) (k : Nat) (x : Int) (h : xs[k]? = some x) : valB (xs.take (k + 1)) = valB (xs.take k) * 256 + x := by
  have hk : k < xs.length := (List.getElem?_eq_some_iff.1 h).1
  rw [List.take_succ_eq_append_getElem hk, valB_snoc]
  congr 1
  simpa [List.getElem?_eq_getElem hk] using h
theorem valB_take_range (xs : List Int) (k : Nat) (h : ∀ x ∈ xs, 0 ≤ x ∧ x < 256) (hk : k ≤ 7) : 0 ≤ valB (xs.take k) ∧ valB (xs.take k) * 256 < 18446744073709551616 - 255 := by
  have h1 := valB_range (xs.take k) fun x hx => h x (List.mem_of_mem_take hx)
  have h2 := pow_mono (8 * (xs.take k).length) 56 (by rw [List.length_take]; omega)
  have h3 : (2 : Int) ^ 56 = 72057594037927936 := by decide
  omega

/-- Octets that are read: where they lie. -/
theorem reads_form {w : World} {v : Value} {xs : List Int} (h : Reads8 w v xs) : ∃ A c, v = .slice A xs.length c ∧ xs.length ≤ c ∧ c ≤ 9223372036854775807 ∧
    (0 < xs.length → ∃ g off, A = some ⟨g, off, none⟩ ∧ ∀ j x, xs[j]? = some x → w.cell? ⟨g, off + j, none⟩ = some (.int .u8 x)) := by
  obtain ⟨_, A, c, rfl, hc, hcm, hcell⟩ := h
  refine ⟨A, c, rfl, hc, by simpa [maxLen] using hcm, fun h0 => ?_⟩
  obtain ⟨ad, e, h1⟩ := hcell 0 _ (by rw [List.getElem?_map, List.getElem?_eq_getElem h0]; rfl)
  have hs : ad.spot = none := Open.cell_spot h1
  refine ⟨ad.block, ad.off, ?_, fun j x hx => ?_⟩
  · rw [e]; cases ad; simp_all
  · obtain ⟨ad', e', h2⟩ := hcell j _ (by rw [List.getElem?_map, hx]; rfl)
    rw [e] at e'
    cases e'
    have : ad = ⟨ad.block, ad.off, none⟩ := by cases ad; simp_all
    rw [this, Open.add_at] at h2
    exact h2

set_option maxHeartbeats 400000 in
theorem funsigned_calls (v : Value) (xs : List Int) (w : World) (hr : Reads8 w v xs) (hx : ∀ x ∈ xs, 0 ≤ x ∧ x < 256) :
    Calls Try.prog 36 #[v] w fun e w' => e = .returned (.tuple #[.int .u64 (uVal xs), .int .i64 (uErr xs)]) ∧ w = w' := by
  have HX := Lib.hid hx
  obtain ⟨A, c, rfl, hc, hcm, hcell⟩ := reads_form hr
  obtain ⟨n, hn⟩ : ∃ n, xs.length = n := ⟨_, rfl⟩
  rw [hn] at hc hcell ⊢
  have hm : n ≤ 9223372036854775807 := by omega
  have HN := Lib.hid hn
  clear hx hn hr
  by_cases h0 : n = 0
  · subst h0
    have he : uErr xs = 3 := by unfold uErr; rw [if_pos (.inl (List.eq_nil_of_length_eq_zero HN.out))]
    have hv : uVal xs = 0 := by unfold uVal; rw [he]; rfl
    have HE := Lib.hid (And.intro he hv)
    clear he hv hcell
    go_enter Try.func36, Try.ntmps36
    go_wp2
    go_ret2
    rw [HE.out.1, HE.out.2]
    exact ⟨rfl, rfl⟩
  · obtain ⟨x, hx0⟩ : ∃ x, xs[0]? = some x := ⟨_, List.getElem?_eq_getElem (by rw [HN.out]; omega)⟩
    obtain ⟨g, off, rfl, hcel⟩ := hcell (by omega)
    clear hcell
    have cx : w.cell? ⟨g, off, none⟩ = some (.int .u8 x) := hcel 0 _ hx0
    have hxr := HX.out x (List.mem_of_getElem? hx0)
    obtain ⟨hx1, hx2⟩ := hxr
    have hhd : xs.headD 0 = x := by rw [List.headD_eq_head?_getD, List.head?_eq_getElem?, hx0]; rfl
    have HHD := Lib.hid (And.intro hhd hx0)
    have hz : ((n : Int) == 0) = false := by rw [beq_eq_false_iff_ne]; omega
    clear hhd hx0
    by_cases h1 : 1 < n ∧ x = 0
    · obtain ⟨h1, rfl⟩ := h1
      have he : uErr xs = 3 := by unfold uErr; rw [if_pos (.inr ⟨by rw [HN.out]; exact h1, HHD.out.1⟩)]
      have hv : uVal xs = 0 := by unfold uVal; rw [he]; rfl
      have HE := Lib.hid (And.intro he hv)
      clear he hv
      have hg : ((1 : Int) < n) := by omega
      go_enter Try.func36, Try.ntmps36
      go_wp2
      go_ret2
      rw [HE.out.1, HE.out.2]
      exact ⟨rfl, rfl⟩
    · have hno : ¬ (xs = [] ∨ (1 < xs.length ∧ xs.headD 0 = 0)) := by
        rintro (e | ⟨e1, e2⟩)
        · rw [e] at HN; have := HN.out; simp at this; omega
        · rw [HN.out] at e1; rw [HHD.out.1] at e2; exact h1 ⟨e1, e2⟩
      by_cases h8 : 8 < n
      · have he : uErr xs = 11 := by unfold uErr; rw [if_neg hno, if_pos (by rw [HN.out]; exact h8)]
        have hv : uVal xs = 0 := by unfold uVal; rw [he]; rfl
        have HE := Lib.hid (And.intro he hv)
        have hx3 : (x == 0) = false := by rw [beq_eq_false_iff_ne]; omega
        clear he hv hno h1
        go_enter Try.func36, Try.ntmps36
        go_wp2
        go_ret2
        rw [HE.out.1, HE.out.2]
        exact ⟨rfl, rfl⟩
      · have he : uErr xs = 0 := by unfold uErr; rw [if_neg hno, if_neg (by rw [HN.out]; exact h8)]
        have hv : uVal xs = valB xs := by unfold uVal; rw [he]; rfl
        have HE := Lib.hid (And.intro he hv)
        have HC := Lib.hid hcel
        clear he hv hno hcel
        rcases Nat.lt_or_ge 1 n with hn1 | hn1
        · have hx3 : (x == 0) = false := by rw [beq_eq_false_iff_ne]; omega
          clear h1
          all_goals
            go_enter Try.func36, Try.ntmps36
            go_wp2
            go_loop [4, 28] (fun y i => ∃ k : Nat, k ≤ n ∧ i = .int .i64 k ∧ y = .int .u64 (valB (xs.take k))) (fun _ i => n - (intOf i).toNat)
            case atStart => exact ⟨0, by omega, rfl, rfl⟩
            case round =>
              obtain ⟨k, hk, rfl, rfl⟩ := hrel
              by_cases hlt : k < n
              · obtain ⟨y, hy⟩ : ∃ y, xs[k]? = some y := ⟨_, List.getElem?_eq_getElem (by rw [HN.out]; omega)⟩
                have cy := HC.out k y hy
                obtain ⟨hy0, hy1⟩ := HX.out y (List.mem_of_getElem? hy)
                obtain ⟨hv0, hv1⟩ := valB_take_range xs k HX.out (by omega)
                have hst := valB_take_succ xs k y hy
                generalize valB (xs.take k) = u at hst hv0 hv1
                have HV := Lib.hid hst
                clear hst hy
                go_wp2
                exact ⟨⟨k + 1, by omega, by go_num, by rw [HV.out]; rw [or_u64 _ _ (by omega) (by omega) (by omega) hy0 hy1]⟩, by simp only [intOf]; omega⟩
              · have ht : valB (xs.take k) = valB xs := by rw [List.take_of_length_le (by rw [HN.out]; omega)]
                have HT := Lib.hid ht
                clear ht
                go_wp2
                go_ret2
                rw [HE.out.1, HE.out.2, ← HT.out]
                exact ⟨rfl, rfl⟩
        · clear h1
          all_goals
            go_enter Try.func36, Try.ntmps36
            go_wp2
            go_loop [4, 28] (fun y i => ∃ k : Nat, k ≤ n ∧ i = .int .i64 k ∧ y = .int .u64 (valB (xs.take k))) (fun _ i => n - (intOf i).toNat)
            case atStart => exact ⟨0, by omega, rfl, rfl⟩
            case round =>
              obtain ⟨k, hk, rfl, rfl⟩ := hrel
              by_cases hlt : k < n
              · obtain ⟨y, hy⟩ : ∃ y, xs[k]? = some y := ⟨_, List.getElem?_eq_getElem (by rw [HN.out]; omega)⟩
                have cy := HC.out k y hy
                obtain ⟨hy0, hy1⟩ := HX.out y (List.mem_of_getElem? hy)
                obtain ⟨hv0, hv1⟩ := valB_take_range xs k HX.out (by omega)
                have hst := valB_take_succ xs k y hy
                generalize valB (xs.take k) = u at hst hv0 hv1
                have HV := Lib.hid hst
                clear hst hy
                go_wp2
                exact ⟨⟨k + 1, by omega, by go_num, by rw [HV.out]; rw [or_u64 _ _ (by omega) (by omega) (by omega) hy0 hy1]⟩, by simp only [intOf]; omega⟩
              · have ht : valB (xs.take k) = valB xs := by rw [List.take_of_length_le (by rw [HN.out]; omega)]
                have HT := Lib.hid ht
                clear ht
                go_wp2
                go_ret2
                rw [HE.out.1, HE.out.2, ← HT.out]
                exact ⟨rfl, rfl⟩

set_option maxHeartbeats 400000 in
theorem rfunsigned_calls (v : Value) (xs : List Int) (w : World) (hr : Reads8 w v xs) (hx : ∀ x ∈ xs, 0 ≤ x ∧ x < 256) :
    Calls Try.prog 37 #[v] w fun e w' => e = .returned (.tuple #[.int .u64 (uVal xs), .int .i64 (uErr xs)]) ∧ w = w' := by
  have HX := Lib.hid hx
  obtain ⟨A, c, rfl, hc, hcm, hcell⟩ := reads_form hr
  obtain ⟨n, hn⟩ : ∃ n, xs.length = n := ⟨_, rfl⟩
  rw [hn] at hc hcell ⊢
  have hm : n ≤ 9223372036854775807 := by omega
  have HN := Lib.hid hn
  clear hx hn hr
  by_cases h0 : n = 0
  · subst h0
    have he : uErr xs = 3 := by unfold uErr; rw [if_pos (.inl (List.eq_nil_of_length_eq_zero HN.out))]
    have hv : uVal xs = 0 := by unfold uVal; rw [he]; rfl
    have HE := Lib.hid (And.intro he hv)
    clear he hv hcell
    go_enter Try.func37, Try.ntmps37
    go_wp2
    go_ret2
    rw [HE.out.1, HE.out.2]
    exact ⟨rfl, rfl⟩
  · obtain ⟨x, hx0⟩ : ∃ x, xs[0]? = some x := ⟨_, List.getElem?_eq_getElem (by rw [HN.out]; omega)⟩
    obtain ⟨g, off, rfl, hcel⟩ := hcell (by omega)
    clear hcell
    have cx : w.cell? ⟨g, off, none⟩ = some (.int .u8 x) := hcel 0 _ hx0
    have hxr := HX.out x (List.mem_of_getElem? hx0)
    obtain ⟨hx1, hx2⟩ := hxr
    have hhd : xs.headD 0 = x := by rw [List.headD_eq_head?_getD, List.head?_eq_getElem?, hx0]; rfl
    have HHD := Lib.hid (And.intro hhd hx0)
    have hz : ((n : Int) == 0) = false := by rw [beq_eq_false_iff_ne]; omega
    clear hhd hx0
    by_cases h1 : 1 < n ∧ x = 0
    · obtain ⟨h1, rfl⟩ := h1
      have he : uErr xs = 3 := by unfold uErr; rw [if_pos (.inr ⟨by rw [HN.out]; exact h1, HHD.out.1⟩)]
      have hv : uVal xs = 0 := by unfold uVal; rw [he]; rfl
      have HE := Lib.hid (And.intro he hv)
      clear he hv
      have hg : ((1 : Int) < n) := by omega
      go_enter Try.func37, Try.ntmps37
      go_wp2
      go_ret2
      rw [HE.out.1, HE.out.2]
      exact ⟨rfl, rfl⟩
    · have hno : ¬ (xs = [] ∨ (1 < xs.length ∧ xs.headD 0 = 0)) := by
        rintro (e | ⟨e1, e2⟩)
        · rw [e] at HN; have := HN.out; simp at this; omega
        · rw [HN.out] at e1; rw [HHD.out.1] at e2; exact h1 ⟨e1, e2⟩
      by_cases h8 : 8 < n
      · have he : uErr xs = 11 := by unfold uErr; rw [if_neg hno, if_pos (by rw [HN.out]; exact h8)]
        have hv : uVal xs = 0 := by unfold uVal; rw [he]; rfl
        have HE := Lib.hid (And.intro he hv)
        have hx3 : (x == 0) = false := by rw [beq_eq_false_iff_ne]; omega
        clear he hv hno h1
        go_enter Try.func37, Try.ntmps37
        go_wp2
        go_ret2
        rw [HE.out.1, HE.out.2]
        exact ⟨rfl, rfl⟩
      · have he : uErr xs = 0 := by unfold uErr; rw [if_neg hno, if_neg (by rw [HN.out]; exact h8)]
        have hv : uVal xs = valB xs := by unfold uVal; rw [he]; rfl
        have HE := Lib.hid (And.intro he hv)
        have HC := Lib.hid hcel
        clear he hv hno hcel
        rcases Nat.lt_or_ge 1 n with hn1 | hn1
        · have hx3 : (x == 0) = false := by rw [beq_eq_false_iff_ne]; omega
          clear h1
          all_goals
            go_enter Try.func37, Try.ntmps37
            go_wp2
            go_loop [4, 5] (fun y i => ∃ k : Nat, k ≤ n ∧ i = .int .i64 k ∧ y = .int .u64 (valB (xs.take k))) (fun _ i => n - (intOf i).toNat)
            case atStart => exact ⟨0, by omega, rfl, rfl⟩
            case round =>
              obtain ⟨k, hk, rfl, rfl⟩ := hrel
              by_cases hlt : k < n
              · obtain ⟨y, hy⟩ : ∃ y, xs[k]? = some y := ⟨_, List.getElem?_eq_getElem (by rw [HN.out]; omega)⟩
                have cy := HC.out k y hy
                obtain ⟨hy0, hy1⟩ := HX.out y (List.mem_of_getElem? hy)
                obtain ⟨hv0, hv1⟩ := valB_take_range xs k HX.out (by omega)
                have hst := valB_take_succ xs k y hy
                generalize valB (xs.take k) = u at hst hv0 hv1
                have HV := Lib.hid hst
                clear hst hy
                go_wp2
                exact ⟨⟨k + 1, by omega, by go_num, by rw [HV.out]⟩, by simp only [intOf]; omega⟩
              · have ht : valB (xs.take k) = valB xs := by rw [List.take_of_length_le (by rw [HN.out]; omega)]
                have HT := Lib.hid ht
                clear ht
                go_wp2
                go_ret2
                rw [HE.out.1, HE.out.2, ← HT.out]
                exact ⟨rfl, rfl⟩
        · clear h1
          all_goals
            go_enter Try.func37, Try.ntmps37
            go_wp2
            go_loop [4, 5] (fun y i => ∃ k : Nat, k ≤ n ∧ i = .int .i64 k ∧ y = .int .u64 (valB (xs.take k))) (fun _ i => n - (intOf i).toNat)
            case atStart => exact ⟨0, by omega, rfl, rfl⟩
            case round =>
              obtain ⟨k, hk, rfl, rfl⟩ := hrel
              by_cases hlt : k < n
              · obtain ⟨y, hy⟩ : ∃ y, xs[k]? = some y := ⟨_, List.getElem?_eq_getElem (by rw [HN.out]; omega)⟩
                have cy := HC.out k y hy
                obtain ⟨hy0, hy1⟩ := HX.out y (List.mem_of_getElem? hy)
                obtain ⟨hv0, hv1⟩ := valB_take_range xs k HX.out (by omega)
                have hst := valB_take_succ xs k y hy
                generalize valB (xs.take k) = u at hst hv0 hv1
                have HV := Lib.hid hst
                clear hst hy
                go_wp2
                exact ⟨⟨k + 1, by omega, by go_num, by rw [HV.out]⟩, by simp only [intOf]; omega⟩
              · have ht : valB (xs.take k) = valB xs := by rw [List.take_of_length_le (by rw [HN.out]; omega)]
                have HT := Lib.hid ht
                clear ht
                go_wp2
                go_ret2
                rw [HE.out.1, HE.out.2, ← HT.out]
                exact ⟨rfl, rfl⟩

end Go.Proofs.Ytomjgjdnlbpleaa.Oct
