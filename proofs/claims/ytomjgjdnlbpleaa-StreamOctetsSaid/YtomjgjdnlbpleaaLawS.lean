/- StreamOctets: the walk of the law. -/
import Derived.Test.YtomjgjdnlbpleaaRdB
import Derived.Test.YtomjgjdnlbpleaaLawB
namespace Go.Proofs.Ytomjgjdnlbpleaa.Stream
open Go.RowKit Go.Proofs.Ytomjgjdnlbpleaa.Sep Go.Proofs.Ytomjgjdnlbpleaa.Bits Go.Proofs.Ytomjgjdnlbpleaa.Num
variable {B : Nat} {w0 w : World} {R : HP}

theorem i64_and7 (x : Int) : Go.bits .and .i64 x 7 = x % 8 := i64_mask x 3 (by decide)

set_option maxHeartbeats 4000000 in
set_option maxRecDepth 100000 in
theorem socts_calls (va : Value) (kk nn : Int) (xs : List Int) (w : World) (hxr : Reads8 w va xs) (hx : ∀ x ∈ xs, 0 ≤ x ∧ x < 256) :
    Calls Try.prog 11 #[va, .int .i64 kk, .int .i64 nn] w fun e w' => e = .returned (.bool true) ∧ Below w.heap.size w w' := by
  have H := Lib.hid (St.start w)
  have HXR := Lib.hid hxr
  have HX := Lib.hid hx
  obtain ⟨_, Ax, cx, rfl, hcx, hcxm, -⟩ := hxr
  have hlx : xs.length ≤ 9223372036854775807 := by simp only [maxLen] at hcxm; omega
  have hk7 := i64_and7 kk
  have hn63 := i64_and63 nn
  obtain ⟨k7, hk⟩ := Int.eq_ofNat_of_zero_le (Int.emod_nonneg kk (show (8 : Int) ≠ 0 by decide))
  obtain ⟨m, hm⟩ := Int.eq_ofNat_of_zero_le (Int.emod_nonneg nn (show (64 : Int) ≠ 0 by decide))
  have hm63 : m ≤ 63 := by omega
  rw [hk] at hk7
  rw [hm] at hn63
  clear hx hcx hcxm hk hm
  by_cases hlenx : xs.length > 300
  · clear hk7 hn63
    go_enter Try.func11, Try.ntmps11
    go_wp2_with (go_at_call 15; refine (awake_calls H.out).mono ?_; rintro e w1 ⟨rfl, h2⟩; have H2 := Lib.hid h2; clear h2)
    go_ret
    exact ⟨rfl, H2.out.below⟩
  have hLen := unpack_length xs
  have hpl := getP_le (unpack xs) 0 (k7 : Int) (Nat.zero_le _)
  rw [hLen] at hpl
  have HLen := Lib.hid hLen
  have hp0 : getP (unpack xs) 0 (k7 : Int) = getP (unpack xs) 0 (k7 : Int) := rfl
  clear hLen hp0
  have hoe : octE (unpack xs) (getP (unpack xs) 0 (k7 : Int)) (m : Int) = if (((8 * xs.length - getP (unpack xs) 0 (k7 : Int)) / 8 : Nat) : Int) < m then 2 else 0 := by
    unfold octE
    rw [if_neg (by omega), HLen.out]
  have hov : octV (unpack xs) (getP (unpack xs) 0 (k7 : Int)) (m : Int) = if octE (unpack xs) (getP (unpack xs) 0 (k7 : Int)) (m : Int) = 0 then octL (unpack xs) (getP (unpack xs) 0 (k7 : Int)) m else [] := rfl
  have hop : octP (unpack xs) (getP (unpack xs) 0 (k7 : Int)) (m : Int) = if octE (unpack xs) (getP (unpack xs) 0 (k7 : Int)) (m : Int) = 0 then getP (unpack xs) 0 (k7 : Int) + 8 * m else getP (unpack xs) 0 (k7 : Int) := rfl
  have hget : ∀ (a : Nat) (A : HP) (W : World), St w.heap.size w W (Rd a xs 0 • A) → Calls Try.prog 41 #[.pointer (some ⟨a, 0, none⟩), .int .i64 k7] W fun e w' => ∃ v, e = .returned v ∧ St w.heap.size w w' (Rd a xs (getP (unpack xs) 0 (k7 : Int)) • A) := by
    intro a A W hW
    refine (get_any (k7 : Int) hW (Nat.zero_le _) (by omega) HX.out).mono ?_
    rintro e w' ⟨rfl, h⟩
    exact ⟨_, rfl, h⟩
  have hoct : ∀ (a : Nat) (A : HP) (W : World), St w.heap.size w W (Rd a xs (getP (unpack xs) 0 (k7 : Int)) • A) → _ := fun a A W hW => rdocts_any (m : Int) hW hpl (by omega) HX.out
  generalize getP (unpack xs) 0 (k7 : Int) = p at *
  rw [hov, hop, hoe] at hoct
  have HG := Lib.hid (And.intro hget hoct)
  clear hoe hov hop hget
  by_cases hs : (((8 * xs.length - p) / 8 : Nat) : Int) < m
  · rw [if_pos hs, if_neg (by decide), if_neg (by decide)] at hoct
    have HO := Lib.hid hoct
    have hs2 : (8 * (xs.length : Int) - p) / 8 < m := by omega
    have hs3 : 0 ≤ 8 * (xs.length : Int) - p := by omega
    clear hoct hs
    go_enter Try.func11, Try.ntmps11
    go_wp2_with fail
    refine (awake_calls H.out).mono ?_
    rintro e w1 ⟨rfl, h2⟩
    have H2 := Lib.hid h2
    clear h2 H
    go_wp2_with fail
    refine (new_calls _ H2.out (fun W h => HXR.out.below h.below) (by omega)).mono ?_
    rintro e w2 ⟨ar, rfl, h3⟩
    have H3 := Lib.hid h3
    clear h3 H2
    go_wp2_with fail
    refine (new_calls _ H3.out (fun W h => HXR.out.below h.below) (by omega)).mono ?_
    rintro e w3 ⟨aq, rfl, h4⟩
    have H4 := Lib.hid h4.two
    clear h4 H3
    go_wp2_with fail
    refine (HG.out.1 ar _ _ H4.out).mono ?_
    rintro e w4 ⟨v4, rfl, h5⟩
    have H5 := Lib.hid h5.two
    clear h5 H4
    go_wp2_with fail
    refine (HG.out.1 aq _ _ H5.out).mono ?_
    rintro e w5 ⟨v5, rfl, h6⟩
    have H6 := Lib.hid h6.two
    clear h6 H5
    go_wp2_with fail
    refine (pos_calls H6.out).mono ?_
    rintro e w' ⟨rfl, rfl⟩
    go_wp2_with fail
    refine (HO.out ar _ _ H6.out).mono ?_
    rintro e w6 ⟨v6, rfl, h7⟩
    obtain ⟨_, A6, c6, rfl, hc6, hcm6, hcell6⟩ := id h7.reads
    simp only [List.length_nil] at hc6
    have H7 := Lib.hid h7.two
    clear h7 H6 hcell6
    go_wp2_with fail
    refine (pos_calls H7.out).mono ?_
    rintro e w' ⟨rfl, rfl⟩
    go_wp2
    go_ret
    exact ⟨rfl, H7.out.below⟩
  · rw [if_neg hs, if_pos rfl, if_pos rfl] at hoct
    have HO := Lib.hid hoct
    have hs2 : ¬ ((8 * (xs.length : Int) - p) / 8 < m) := by omega
    have hs3 : 0 ≤ 8 * (xs.length : Int) - p := by omega
    have hpm : p + 8 * m ≤ 8 * xs.length := by omega
    clear hoct hs
    go_enter Try.func11, Try.ntmps11
    go_wp2_with fail
    refine (awake_calls H.out).mono ?_
    rintro e w1 ⟨rfl, h2⟩
    have H2 := Lib.hid h2
    clear h2 H
    go_wp2_with fail
    refine (new_calls _ H2.out (fun W h => HXR.out.below h.below) (by omega)).mono ?_
    rintro e w2 ⟨ar, rfl, h3⟩
    have H3 := Lib.hid h3
    clear h3 H2
    go_wp2_with fail
    refine (new_calls _ H3.out (fun W h => HXR.out.below h.below) (by omega)).mono ?_
    rintro e w3 ⟨aq, rfl, h4⟩
    have H4 := Lib.hid h4.two
    clear h4 H3
    go_wp2_with fail
    refine (HG.out.1 ar _ _ H4.out).mono ?_
    rintro e w4 ⟨v4, rfl, h5⟩
    have H5 := Lib.hid h5.two
    clear h5 H4
    go_wp2_with fail
    refine (HG.out.1 aq _ _ H5.out).mono ?_
    rintro e w5 ⟨v5, rfl, h6⟩
    have H6 := Lib.hid h6.two
    clear h6 H5
    go_wp2_with fail
    refine (pos_calls H6.out).mono ?_
    rintro e w' ⟨rfl, rfl⟩
    go_wp2_with fail
    refine (HO.out ar _ _ H6.out).mono ?_
    rintro e w6 ⟨v6, rfl, h7⟩
    obtain ⟨_, A6, c6, rfl, hc6, hcm6, hcell6⟩ := id h7.reads
    have HCE := Lib.hid (fun (W : World) (A : HP) (hW : St w.heap.size w W (Row8 (.slice A6 (octL (unpack xs) p m).length c6) (octL (unpack xs) p m) • A)) => hW.reads)
    rw [octL_length] at hc6 ⊢
    have H7 := Lib.hid h7.three
    clear h7 H6 hcell6
    go_wp2_with fail
    go_loopw [14] (fun i wr => ∃ k : Nat, k ≤ m ∧ i = .int .i64 k ∧ Hid (St w.heap.size w wr (Rd aq xs (p + 8 * k) • Row8 (.slice A6 m c6) (octL (unpack xs) p m) • Rd ar xs (p + 8 * m) • emp))) (fun i _ => m - (intOf i).toNat)
    case atStart => exact ⟨0, Nat.zero_le _, rfl, Lib.hid (by have h := H7.out; rw [octL_length] at h; exact h)⟩
    case round =>
      obtain ⟨k, hk, rfl, H3⟩ := hrel
      by_cases hlt : k < m
      · go_wp2_with fail
        refine (get_ok 8 H3.out (by omega) (by omega) HX.out (by decide)).mono ?_
        rintro e w8 ⟨rfl, h4⟩
        have hgr := octL_range (unpack xs) p m
        have hgk : (octL (unpack xs) p m)[k]? = some (getB (((unpack xs).drop (p + 8 * k)).take 8)) := by
          unfold octL
          rw [List.getElem?_map, List.getElem?_range hlt]
          rfl
        obtain ⟨hg0, hg1⟩ := hgr _ (List.mem_of_getElem? hgk)
        obtain ⟨_, A9, c9, e9, _, _, hcell⟩ := id h4.two.reads
        obtain ⟨ad, e2, hcx⟩ := hcell k _ (by rw [List.getElem?_map, hgk]; rfl)
        simp only [Value.slice.injEq] at e9
        obtain ⟨rfl, -, -⟩ := e9
        subst e2
        generalize getB (((unpack xs).drop (p + 8 * k)).take 8) = u at hg0 hg1 hcx ⊢
        have H4 := Lib.hid (show St w.heap.size w w8 (Rd aq xs (p + 8 * (k + 1)) • Row8 (.slice (some ad) m c6) (octL (unpack xs) p m) • Rd ar xs (p + 8 * m) • emp) from by rw [show p + 8 * (k + 1) = p + 8 * k + 8 from by omega]; exact h4)
        clear h4 H3 hgr hgk hcell H7 HCE
        have hki : ¬ ((k : Int) ≥ m) := by omega
        go_wp2
        exact ⟨⟨k + 1, by omega, by go_num, H4⟩, by simp only [intOf]; omega⟩
      · obtain rfl : k = m := by omega
        go_wp2_with fail
        refine (pos_calls H3.out.three).mono ?_
        rintro e w' ⟨rfl, rfl⟩
        go_wp2_with fail
        refine (pos_calls H3.out).mono ?_
        rintro e w' ⟨rfl, rfl⟩
        go_wp2
        go_ret
        exact ⟨rfl, H3.out.below⟩
end Go.Proofs.Ytomjgjdnlbpleaa.Stream
