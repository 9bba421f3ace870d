/- The walks of layer 1's reader: Align, Octets, End. -/
import Derived.Test.YtomjgjdnlbpleaaRdA
namespace Go.Proofs.Ytomjgjdnlbpleaa.Stream
open Go.RowKit Go.Proofs.Ytomjgjdnlbpleaa.Sep Go.Proofs.Ytomjgjdnlbpleaa.Bits Go.Proofs.Ytomjgjdnlbpleaa.Num
variable {B : Nat} {w0 w : World} {R : HP} {a : Nat} {xs : List Int} {p : Nat}

theorem ralign_nil (w : World) :
    Calls Try.prog 46 #[.pointer none] w fun e w' => e = .returned (.int .i64 1) ∧ w = w' := by
  go_enter Try.func46, Try.ntmps46
  go_wp2
  go_ret
  exact ⟨rfl, rfl⟩

set_option maxHeartbeats 400000 in
theorem rdalign_calls (h : St B w0 w (Rd a xs p • R)) (hp : p ≤ 8 * xs.length) (hb : xs.length ≤ 1000000000000) (hx : ∀ x ∈ xs, 0 ≤ x ∧ x < 256) :
    Calls Try.prog 46 #[.pointer (some ⟨a, 0, none⟩)] w fun e w' => e = .returned (.int .i64 (alignE (unpack xs) p)) ∧ St B w0 w' (Rd a xs (alignP (unpack xs) p) • R) := by
  obtain ⟨A, c, -, c1, f1, -, -, -, hset⟩ := Rd.cells h
  have hT : ((p : Int) + 8 - 1) / 8 * 8 = (upTo8 p : Nat) := by unfold upTo8; omega
  have hTl := upTo8_le (unpack xs) p (by rw [unpack_length]; omega) (by rw [unpack_length]; exact hp)
  have hpT : p ≤ upTo8 p := by unfold upTo8; omega
  have hal : ∀ r, anyB (unpack xs) p (upTo8 p) = r → alignE (unpack xs) p = (if r = true then 3 else 0) ∧ alignP (unpack xs) p = (if r = true then p else upTo8 p) := by
    intro r hr
    have e : alignE (unpack xs) p = (if r = true then 3 else 0) := by unfold alignE; rw [hr]
    refine ⟨e, ?_⟩
    unfold alignP
    rw [e]
    cases r <;> rfl
  rw [unpack_length] at hTl
  generalize hTT : upTo8 p = T at hT hTl hpT hal
  have H := Lib.hid (And.intro h (And.intro hx (And.intro hset hal)))
  have hpb : p ≤ 8000000000000 := by omega
  have hTb : T ≤ 8000000000000 := by omega
  clear h hx hset hal hTT
  go_enter Try.func46, Try.ntmps46
  go_wp2_with fail
  go_loop [4] (fun i => ∃ k : Nat, p ≤ k ∧ k ≤ T ∧ i = .int .i64 k ∧ Hid (∀ j, p ≤ j → j < k → (unpack xs)[j]? ≠ some true)) (fun i => T - (intOf i).toNat)
  case atStart => exact ⟨p, Nat.le_refl _, hpT, rfl, Lib.hid fun j h1 h2 => by omega⟩
  case round =>
    obtain ⟨k, hk1, hk2, rfl, HK⟩ := hrel
    by_cases hlt : k < T
    · obtain ⟨b, hbk⟩ : ∃ b, (unpack xs)[k]? = some b := ⟨_, List.getElem?_eq_getElem (by rw [unpack_length]; omega)⟩
      have hbit : bitAt (unpack xs) (k : Int).toNat = b2i b := by
        rw [Int.toNat_natCast, bitAt, List.getD, hbk]; rfl
      have HB := Lib.hid (And.intro hbk hbit)
      clear hbk hbit
      go_wp2_with fail
      refine (bit_any (k : Int) H.out.1 (by omega) (by omega) hb H.out.2.1).mono ?_
      rintro e w' ⟨rfl, rfl⟩
      rw [HB.out.2]
      cases b with
      | true =>
        rw [show b2i true = 1 from rfl]
        go_wp2
        go_ret
        obtain ⟨e1, e2⟩ := H.out.2.2.2 true (anyB_true _ p T k hk1 hlt HB.out.1)
        rw [e1, e2]
        exact ⟨rfl, H.out.1⟩
      | false =>
        rw [show b2i false = 0 from rfl]
        go_wp2
        refine ⟨⟨k + 1, by omega, by omega, by go_num, Lib.hid fun j h1 h2 => ?_⟩, by simp only [intOf]; omega⟩
        by_cases hj : j < k
        · exact HK.out j h1 hj
        · rw [show j = k from by omega, HB.out.1]; simp
    · obtain rfl : k = T := by omega
      obtain ⟨e1, e2⟩ := H.out.2.2.2 false (anyB_false _ p k HK.out)
      have HE := Lib.hid (And.intro e1 e2)
      clear e1 e2
      go_wp2
      go_ret
      rw [HE.out.1, HE.out.2]
      exact ⟨rfl, H.out.2.2.1 k⟩

theorem rdocts_nil (n : Int) (w : World) :
    Calls Try.prog 43 #[.pointer none, .int .i64 n] w fun e w' => e = .returned (.tuple #[.slice none 0 0, .int .i64 1]) ∧ w = w' := by
  go_enter Try.func43, Try.ntmps43
  go_wp2
  go_ret2
  exact ⟨rfl, rfl⟩
theorem rdocts_bad (n : Int) (w : World) (ad : Addr) (hn : n < 0) :
    Calls Try.prog 43 #[.pointer (some ad), .int .i64 n] w fun e w' => e = .returned (.tuple #[.slice none 0 0, .int .i64 1]) ∧ w = w' := by
  go_enter Try.func43, Try.ntmps43
  go_wp2
  go_ret2
  exact ⟨rfl, rfl⟩
theorem rdocts_short (n : Int) (h : St B w0 w (Rd a xs p • R)) (hp : p ≤ 8 * xs.length) (hb : xs.length ≤ 1000000000000) (h0 : 0 ≤ n) (hs : (((8 * xs.length - p) / 8 : Nat) : Int) < n) :
    Calls Try.prog 43 #[.pointer (some ⟨a, 0, none⟩), .int .i64 n] w fun e w' => e = .returned (.tuple #[.slice none 0 0, .int .i64 2]) ∧ St B w0 w' (Rd a xs p • R) := by
  have H := Lib.hid h
  have hle : ((8 * xs.length : Nat) - (p : Int)) / 8 < n := by omega
  have hge : 0 ≤ ((8 * xs.length : Nat) - (p : Int)) := by omega
  have hub : ((8 * xs.length : Nat) - (p : Int)) ≤ 8000000000000 := by omega
  have HL := Lib.hid (fun W (hW : W = w) => left_calls (hW ▸ h) hp hb)
  clear h hs
  generalize ((8 * xs.length : Nat) - (p : Int)) = z at *
  go_enter Try.func43, Try.ntmps43
  go_wp2_with fail
  refine (HL.out _ rfl).mono ?_
  rintro e w' ⟨rfl, rfl⟩
  go_wp2
  go_ret2
  exact ⟨rfl, H.out.drew⟩

set_option maxHeartbeats 400000 in
theorem rdocts_ok (n : Nat) (h : St B w0 w (Rd a xs p • R)) (hp : p + 8 * n ≤ 8 * xs.length) (hb : xs.length ≤ 1000000000000) (hx : ∀ x ∈ xs, 0 ≤ x ∧ x < 256) :
    Calls Try.prog 43 #[.pointer (some ⟨a, 0, none⟩), .int .i64 n] w fun e w' => ∃ v, e = .returned (.tuple #[v, .int .i64 0]) ∧ St B w0 w' (Row8 v (octL (unpack xs) p n) • Rd a xs (p + 8 * n) • R) := by
  have H := Lib.hid (And.intro h.drew hx)
  have hle : ¬ (((8 * xs.length : Nat) - (p : Int)) / 8 < n) := by omega
  have hge : 0 ≤ ((8 * xs.length : Nat) - (p : Int)) := by omega
  have hub : ((8 * xs.length : Nat) - (p : Int)) ≤ 8000000000000 := by omega
  have HL := Lib.hid (fun W (hW : W = w) => left_calls (hW ▸ h) (by omega) hb)
  clear h hx
  have hnb : n ≤ 1000000000000 := by omega
  go_enter Try.func43, Try.ntmps43
  go_wp2_with fail
  refine (HL.out _ rfl).mono ?_
  rintro e w' ⟨rfl, rfl⟩
  generalize w.drew = W at H ⊢
  generalize ((8 * xs.length : Nat) - (p : Int)) = z at hle hge hub ⊢
  go_wp2_with fail
  go_loopw [6, 23] (fun v i wr => ∃ k : Nat, k ≤ n ∧ i = .int .i64 k ∧ Hid (St B w0 wr (Row8 v (octL (unpack xs) p k) • Rd a xs (p + 8 * k) • R))) (fun _ i _ => n - (intOf i).toNat)
  case atStart => exact ⟨0, Nat.zero_le _, rfl, Lib.hid (H.out.1.nil _ _)⟩
  case round =>
    obtain ⟨k, hk, rfl, H3⟩ := hrel
    by_cases hlt : k < n
    · go_wp2_with fail
      refine (get_ok 8 H3.out.two (by omega) hb H.out.2 (by decide)).mono ?_
      rintro e w2 ⟨rfl, h4⟩
      have hr := octL_range (unpack xs) p (k + 1)
      have hsu := octL_succ (unpack xs) p k
      obtain ⟨hg0, hg1⟩ := hr (getB (((unpack xs).drop (p + 8 * k)).take 8)) (by rw [hsu]; simp)
      generalize getB (((unpack xs).drop (p + 8 * k)).take 8) = u at hsu hg0 hg1 ⊢
      have hlen := octL_length (unpack xs) p k
      have H4 := Lib.hid (And.intro h4.two (And.intro hsu hlen))
      clear h4 H3 hr hsu hlen
      go_wp2_with (at_builtin; refine append8 rfl _ _ rfl u6 _ (octL (unpack xs) p k) [u] rfl (H4.out.1.alloc _).two rfl (St.blkReads (H4.out.1.alloc _) rfl rfl rfl (by simp)) (by rw [H4.out.2.2, List.length_singleton]; omega) ?_; intro v' w3 h5; rw [← H4.out.2.1] at h5; have H5 := Lib.hid h5.two.drop; clear h5)
      exact ⟨⟨k + 1, by omega, by go_num, Lib.hid (by rw [show p + 8 * (k + 1) = p + 8 * k + 8 from by omega]; exact H5.out)⟩, by simp only [intOf]; omega⟩
    · obtain rfl : k = n := by omega
      go_wp2
      go_ret2
      exact ⟨_, rfl, H3.out⟩

/-- Octets, whatever it is asked for. -/
theorem rdocts_any (n : Int) (h : St B w0 w (Rd a xs p • R)) (hp : p ≤ 8 * xs.length) (hb : xs.length ≤ 1000000000000) (hx : ∀ x ∈ xs, 0 ≤ x ∧ x < 256) :
    Calls Try.prog 43 #[.pointer (some ⟨a, 0, none⟩), .int .i64 n] w fun e w' => ∃ v, e = .returned (.tuple #[v, .int .i64 (octE (unpack xs) p n)]) ∧ St B w0 w' (Row8 v (octV (unpack xs) p n) • Rd a xs (octP (unpack xs) p n) • R) := by
  have hl := unpack_length xs
  by_cases h1 : n < 0
  · have he : octE (unpack xs) p n = 1 := by unfold octE; rw [if_pos h1]
    refine (rdocts_bad n w _ h1).mono ?_
    rintro e w' ⟨rfl, rfl⟩
    rw [octV, octP, he]
    exact ⟨_, rfl, h.nil _ _⟩
  · by_cases h2 : ((((unpack xs).length - p) / 8 : Nat) : Int) < n
    · have he : octE (unpack xs) p n = 2 := by unfold octE; rw [if_neg h1, if_pos h2]
      refine (rdocts_short n h hp hb (by omega) (by rw [hl] at h2; exact h2)).mono ?_
      rintro e w' ⟨rfl, h3⟩
      rw [octV, octP, he]
      exact ⟨_, rfl, h3.nil _ _⟩
    · have he : octE (unpack xs) p n = 0 := by unfold octE; rw [if_neg h1, if_neg h2]
      obtain ⟨m, rfl⟩ := Int.eq_ofNat_of_zero_le (show 0 ≤ n by omega)
      rw [octV, octP, he]
      exact rdocts_ok m h (by rw [hl] at h2; omega) hb hx

theorem end_nil (w : World) :
    Calls Try.prog 49 #[.pointer none] w fun e w' => e = .returned (.int .i64 1) ∧ w = w' := by
  go_enter Try.func49, Try.ntmps49
  go_wp2
  go_ret
  exact ⟨rfl, rfl⟩

theorem putB0 : putB 0 8 = [false, false, false, false, false, false, false, false] := by decide
theorem zero8 (xs : List Int) (hx : ∀ x ∈ xs, 0 ≤ x ∧ x < 256) : unpack xs = putB 0 8 ↔ xs = [0] := by
  constructor
  · intro h
    have h2 := congrArg pack h
    rw [pack_unpack xs hx, pack_byte 0 (by decide) (by decide)] at h2
    exact h2
  · rintro rfl
    rfl

set_option maxHeartbeats 400000 in
theorem end_calls (h : St B w0 w (Rd a xs p • R)) (hp : p ≤ 8 * xs.length) (hb : xs.length ≤ 1000000000000) (hx : ∀ x ∈ xs, 0 ≤ x ∧ x < 256) :
    Calls Try.prog 49 #[.pointer (some ⟨a, 0, none⟩)] w fun e w' => e = .returned (.int .i64 (endE (unpack xs) p)) ∧ St B w0 w' (Rd a xs p • R) := by
  obtain ⟨A, c, c0, c1, f1, hc, hcm, hrow, hset⟩ := Rd.cells h
  have hl := unpack_length xs
  have H := Lib.hid (And.intro h hx)
  by_cases h0 : p = 0
  · subst h0
    by_cases h1 : xs.length = 1
    · match xs, h1 with
      | [x], _ =>
        obtain ⟨g, rfl, hcell⟩ := hrow (by simp)
        have cx := hcell 0 x rfl
        obtain ⟨hx0, hx1⟩ := hx x (by simp)
        have hz := zero8 [x] hx
        have hE : endE (unpack [x]) 0 = if x = 0 then 0 else 3 := by
          unfold endE
          by_cases hx2 : x = 0
          · rw [if_pos hx2, if_pos ⟨rfl, hz.2 (by rw [hx2])⟩]
          · rw [if_neg hx2, if_neg (fun h => hx2 (by simpa using hz.1 h.2)), if_pos (.inl rfl)]
        have HE := Lib.hid hE
        clear h hx hset hrow hcell hE hz hl
        simp only [List.length_singleton] at c0
        by_cases hx2 : x = 0
        · subst hx2
          go_enter Try.func49, Try.ntmps49
          go_wp2
          go_ret
          rw [HE.out]
          exact ⟨rfl, H.out.1⟩
        · have t0 : (x == 0) = false := by rw [beq_eq_false_iff_ne]; exact hx2
          have hE2 : endE (unpack [x]) 0 = 3 := by rw [HE.out, if_neg hx2]
          have HE2 := Lib.hid hE2
          clear hE2 hx2
          go_enter Try.func49, Try.ntmps49
          go_wp2
          go_ret
          rw [HE2.out]
          exact ⟨rfl, H.out.1⟩
    · have hE : endE (unpack xs) 0 = 3 := by
        unfold endE
        rw [if_neg (fun h => h1 (by have := congrArg List.length h.2; rw [unpack_length, putB_length] at this; omega)), if_pos (.inl rfl)]
      have HE := Lib.hid hE
      clear h hx hset hrow hE hl
      generalize xs.length = n at *
      have t1 : ((n : Int) == 1) = false := by rw [beq_eq_false_iff_ne]; omega
      clear h1
      go_enter Try.func49, Try.ntmps49
      go_wp2
      go_ret
      rw [HE.out]
      exact ⟨rfl, H.out.1⟩
  · have t0 : ((p : Int) == 0) = false := by rw [beq_eq_false_iff_ne]; omega
    have HL := Lib.hid (fun W (hW : W = w) => left_calls (hW ▸ h) hp hb)
    by_cases h8 : 8 ≤ 8 * xs.length - p
    · have hE : endE (unpack xs) p = 3 := by
        unfold endE
        rw [if_neg (fun h => h0 h.1), if_pos (.inr (by omega))]
      have HE := Lib.hid hE
      have hge : ((8 * xs.length : Nat) - (p : Int)) ≥ 8 := by omega
      clear h hx hset hrow hE hl h0 h8
      generalize ((8 * xs.length : Nat) - (p : Int)) = z at *
      go_enter Try.func49, Try.ntmps49
      go_wp2_with fail
      refine (HL.out _ rfl).mono ?_
      rintro e w' ⟨rfl, rfl⟩
      go_wp2
      go_ret
      rw [HE.out]
      exact ⟨rfl, H.out.1.drew⟩
    · have hE : endE (unpack xs) p = alignE (unpack xs) p := by
        unfold endE
        rw [if_neg (fun h => h0 h.1), if_neg (by omega)]
      have hlt : ((8 * xs.length : Nat) - (p : Int)) < 8 := by omega
      have HX := Lib.hid (And.intro hE (And.intro (rdalign_calls h.drew hp hb hx) hset))
      clear h hx hrow hE hl h0 h8 hset
      have hEr : alignE (unpack xs) p = 0 ∨ alignE (unpack xs) p = 3 := by unfold alignE; split <;> simp
      generalize hq : alignP (unpack xs) p = q at HX
      generalize alignE (unpack xs) p = ee at HX hEr
      generalize ((8 * xs.length : Nat) - (p : Int)) = z at *
      clear hq hEr
      go_enter Try.func49, Try.ntmps49
      go_wp2_with fail
      refine (HL.out _ rfl).mono ?_
      rintro e w' ⟨rfl, rfl⟩
      go_wp2_with fail
      refine HX.out.2.1.mono ?_
      rintro e w2 ⟨rfl, h3⟩
      obtain ⟨A3, c3, -, c13, f3, -, -, -, hset3⟩ := Rd.cells h3
      have HS3 := Lib.hid (hset3 p)
      clear h3 hset3
      go_wp2
      go_ret
      rw [HX.out.1]
      exact ⟨rfl, HS3.out⟩
end Go.Proofs.Ytomjgjdnlbpleaa.Stream
