/- The walks of the reference's layer 1: Align, Octets. -/
import Derived.Test.YtomjgjdnlbpleaaRefA
namespace Go.Proofs.Ytomjgjdnlbpleaa.Stream
open Go.RowKit Go.Proofs.Ytomjgjdnlbpleaa.Sep Go.Proofs.Ytomjgjdnlbpleaa.Bits Go.Proofs.Ytomjgjdnlbpleaa.Num
variable {B : Nat} {w0 w : World} {R : HP} {a : Nat} {bits : List Bool}

def lenV : Value → Nat | .slice _ n _ => n | _ => 0
theorem row_form {v : Value} {xs : List Int} {m : Nat} (h : St B w0 w (Row8 v xs • R)) (hm : xs.length = m) : ∃ A c, v = .slice A m c ∧ m ≤ c := by
  obtain ⟨_, A, c, rfl, hc, -⟩ := h.reads
  exact ⟨A, c, by rw [hm], by omega⟩

theorem ralign_calls (l : List Bool) (hb : l.length ≤ 1000000000000) (h : St B w0 w R) :
    Calls Try.prog 18 #[.string (strOf l)] w fun e w' => e = .returned (.string (strOf (alignB l))) ∧ St B w0 w' R := by
  have hs := strOf_size l
  have HS := Lib.hid (And.intro h hs)
  clear h hs
  go_enter Try.func18, Try.ntmps18
  go_wp2_with (with_reducible refine gate (N := 5) rfl ?_; refine conv_str8 rfl _ rfl (strOf l) rfl HS.out.1 (by rw [HS.out.2]; omega) ?_; intro vb w1 h2; rw [nums_strOf] at h2; have H2 := Lib.hid h2; clear h2)
  go_loopw [3] (fun vb wr => ∃ k : Nat, k ≤ padN l.length ∧ Hid (St B w0 wr (Row8 vb ((l ++ List.replicate k false).map chrB) • R))) (fun vb _ => l.length + 8 - lenV vb)
  case atStart => exact ⟨0, Nat.zero_le _, Lib.hid (by simpa using H2.out)⟩
  case round =>
    clear H2
    obtain ⟨k, hk, H3⟩ := hrel
    have hp : padN l.length < 8 := by unfold padN; omega
    have hpd : padN l.length = (8 - l.length % 8) % 8 := rfl
    obtain ⟨m, hm⟩ : ∃ m, m = l.length + k := ⟨_, rfl⟩
    have hml : ((l ++ List.replicate k false).map chrB).length = m := by simp [hm]
    generalize hxs : (l ++ List.replicate k false).map chrB = xs at H3 hml
    have HX := Lib.hid hxs
    clear hxs
    obtain ⟨A, c, rfl, hc⟩ := row_form H3.out hml
    by_cases hlt : k < padN l.length
    · have h8 : ((m : Int) % 8 != 0) = true := by rw [bne_iff_ne]; omega
      have HM := Lib.hid (And.intro hm hml)
      have hmb : m ≤ 1000000000008 := by omega
      have HP := Lib.hid (And.intro hpd hp)
      clear hm hml hpd hp
      go_wp2_with (at_builtin; refine append8s rfl _ _ rfl (.slice A m c) _ _ [48] (m + 1) (by rfl) (by have := (H3.out.alloc (.cells #[.int .u8 48] 5)).two; exact this) rfl (St.blkReads (H3.out.alloc _) rfl rfl rfl (by simp)) (by rw [HM.out.2]; rfl) (by omega) (by omega) ?_; intro g cap w2 hc1 hc2 h4; have H4 := Lib.hid h4.two.drop; clear h4)
      refine ⟨⟨k + 1, by omega, Lib.hid ?_⟩, by have := HM.out.1; have := HP.out.2; simp only [lenV]; omega⟩
      have h5 := H4.out
      rw [← HX.out] at h5
      have e : (l ++ List.replicate k false).map chrB ++ [48] = (l ++ List.replicate (k + 1) false).map chrB := by
        simp [List.replicate_succ', chrB]
      rw [← e]
      have e2 : ((l ++ List.replicate k false).map chrB ++ [48]).length = m + 1 := by rw [HX.out, List.length_append, HM.out.2]; rfl
      exact h5
    · have h8 : ((m : Int) % 8 != 0) = false := by rw [bne_eq_false_iff_eq]; omega
      have hk2 : k = padN l.length := by omega
      have HM := Lib.hid (And.intro hm (And.intro hml hk2))
      clear hm hml hpd hk2
      go_wp2_with (with_reducible refine gate (N := 14) rfl ?_; refine conv_8str rfl _ rfl (.slice A m c) _ rfl H3.out.reads ?_)
      go_ret
      refine ⟨?_, H3.out.drop⟩
      show Ending.returned (.string (strOfNums xs)) = _
      rw [← HX.out, HM.out.2.2]
      rfl

theorem u8_and1 (x : Int) (h0 : 0 ≤ x) (h1 : x < 256) : Go.bits .and .u8 x 1 = x % 2 := bits_mask .u8 8 (by decide) wraps_u8 1 (by decide) x h0 h1
theorem div_pow_u8 (x : Int) (h0 : 0 ≤ x) (h1 : x < 256) (n : Nat) : 0 ≤ x / 2 ^ n ∧ x / 2 ^ n < 256 := by
  have hp : (0 : Int) < 2 ^ n := Int.pow_pos (by decide)
  exact ⟨Int.ediv_nonneg h0 (Int.le_of_lt hp), Int.lt_of_le_of_lt (Int.ediv_le_self _ h0) h1⟩
theorem chr_bit8 (x : Int) (h0 : 0 ≤ x) (h1 : x < 256) (n : Nat) : (48 + Go.bits .and .u8 (x / 2 ^ n) 1) % 256 = chrB (decide (x / 2 ^ n % 2 = 1)) := by
  obtain ⟨h2, h3⟩ := div_pow_u8 x h0 h1 n
  rw [u8_and1 _ h2 h3]
  by_cases h : x / 2 ^ n % 2 = 1 <;> simp [chrB, h] <;> omega

theorem rocts_calls (l : List Bool) (v : Value) (xs : List Int) (hb : l.length ≤ 100000000000) (hxb : xs.length ≤ 10000000000) (hx : ∀ x ∈ xs, 0 ≤ x ∧ x < 256) (h : St B w0 w R) (hr : ∀ w', St B w0 w' R → Reads8 w' v xs) :
    Calls Try.prog 20 #[.string (strOf l), v] w fun e w' => e = .returned (.string (strOf (l ++ unpack xs))) ∧ St B w0 w' R := by
  have hs := strOf_size l
  obtain ⟨_, A, c, rfl, hc, hcm, _⟩ := id (hr w h)
  have HS := Lib.hid (And.intro h (And.intro hs hr))
  have hxm : xs.length ≤ 9223372036854775807 := by omega
  have HXX := Lib.hid hx
  clear h hs hr hx
  go_enter Try.func20, Try.ntmps20
  go_wp2_with (with_reducible refine gate (N := 9) rfl ?_; refine conv_str8 rfl _ rfl (strOf l) rfl HS.out.1 (by rw [HS.out.2.1]; omega) ?_; intro vb w1 h2; rw [nums_strOf] at h2; have H2 := Lib.hid h2; clear h2)
  go_loopw [5, 6] (fun vb i wr => ∃ k : Nat, k ≤ xs.length ∧ i = .int .i64 k ∧ Hid (St B w0 wr (Row8 vb ((l ++ unpack (xs.take k)).map chrB) • R))) (fun _ i _ => xs.length - (intOf i).toNat)
  case atStart => exact ⟨0, Nat.zero_le _, rfl, Lib.hid (by simpa [unpack] using H2.out)⟩
  case round =>
    clear H2
    obtain ⟨k, hk, rfl, H3⟩ := hrel
    by_cases hlt : k < xs.length
    · obtain ⟨x, hxk⟩ : ∃ x, xs[k]? = some x := ⟨_, List.getElem?_eq_getElem hlt⟩
      have hxr := HXX.out x (List.mem_of_getElem? hxk)
      obtain ⟨hx0, hx1⟩ := hxr
      have HXK := Lib.hid hxk
      clear hxk
      generalize hl2 : l ++ unpack (xs.take k) = l2 at H3
      have hl2l : l2.length ≤ 1000000000000 := by
        rw [← hl2, List.length_append, unpack_length, List.length_take]; omega
      have HL2 := Lib.hid hl2
      clear hl2
      go_wp2
      go_loopw [5, 7] (fun vb i wr => ∃ i0 : Int, -1 ≤ i0 ∧ i0 ≤ 7 ∧ i = .int .i64 i0 ∧ Hid (St B w0 wr (Row8 vb ((l2 ++ putB (x / 2 ^ (i0 + 1).toNat) (7 - i0).toNat).map chrB) • R))) (fun _ i _ => (intOf i + 1).toNat)
      case atStart =>
        refine ⟨7, by omega, by omega, rfl, Lib.hid ?_⟩
        simpa [putB] using H3.out
      case round =>
        clear H3
        obtain ⟨i0, hi0, hi1, rfl, H3⟩ := hrel
        by_cases hge : 0 ≤ i0
        · obtain ⟨j, rfl⟩ := Int.eq_ofNat_of_zero_le hge
          have e1 : ((j : Int) + 1).toNat = j + 1 := by omega
          have e2 : ((7 : Int) - j).toNat = 8 - 1 - j := by omega
          rw [e1, e2] at H3
          clear e1 e2
          have hj : j < 8 := by omega
          obtain ⟨_, A', c', e, _, _, hcell⟩ := HS.out.2.2 _ H3.out.drop
          obtain ⟨ad, e2, hcx⟩ := hcell k _ (by rw [List.getElem?_map, HXK.out]; rfl)
          simp only [Value.slice.injEq] at e
          obtain ⟨rfl, -, -⟩ := e
          subst e2
          clear hcell
          have hlen : ((l2 ++ putB (x / 2 ^ (j + 1)) (8 - 1 - j)).map chrB).length + 1 ≤ 70368744177664 := by
            rw [List.length_map, List.length_append, putB_length]; omega
          have HL := Lib.hid hlen
          clear hlen
          have hm8 : min j 8 = j := by omega
          generalize hys : (l2 ++ putB (x / 2 ^ (j + 1)) (8 - 1 - j)).map chrB = ys at H3 HL
          have HY := Lib.hid hys
          clear hys
          go_wp2_with (at_builtin; refine append8 rfl _ _ rfl _ _ ys [(48 + Go.bits .and .u8 (x / 2 ^ j) 1) % 256] rfl (H3.out.alloc _).two rfl (St.blkReads (H3.out.alloc _) rfl rfl rfl (by simp)) HL.out ?_; intro v' w2 h4; rw [chr_bit8 x hx0 hx1 j] at h4; have H4 := Lib.hid h4.two.drop; clear h4)
          refine ⟨⟨(j : Int) - 1, by omega, by omega, by go_num, Lib.hid ?_⟩, by simp [intOf]⟩
          have e1 : ((j : Int) - 1 + 1).toNat = j := by omega
          have e2 : ((7 : Int) - (j - 1)).toNat = 8 - j := by omega
          rw [e1, e2, ← putB_down x 8 j hj]
          have h5 := H4.out
          rw [← HY.out] at h5
          simpa using h5
        · go_wp2
          refine ⟨⟨k + 1, by omega, by go_num, Lib.hid ?_⟩, by simp [intOf]; omega⟩
          have e1 : i0 = -1 := by omega
          have h5 := H3.out
          rw [e1] at h5
          have e2 : (-1 + 1 : Int).toNat = 0 := rfl
          have e3 : ((7 : Int) - -1).toNat = 8 := rfl
          rw [e2, e3, Int.pow_zero, Int.ediv_one, ← HL2.out] at h5
          rw [unpack_take_succ xs k x HXK.out, ← List.append_assoc]
          exact h5
    · generalize hys : (l ++ unpack (xs.take k)).map chrB = ys at H3
      have HY := Lib.hid hys
      clear hys
      go_wp2_with (with_reducible refine gate (N := 33) rfl ?_; refine conv_8str rfl _ rfl u5 ys rfl H3.out.reads ?_)
      go_ret
      refine ⟨?_, H3.out.drop⟩
      show Ending.returned (.string (strOfNums ys)) = _
      rw [← HY.out, List.take_of_length_le (Nat.le_of_not_lt hlt)]
      rfl

end Go.Proofs.Ytomjgjdnlbpleaa.Stream
