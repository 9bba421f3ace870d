/- The walks of the reference's reader: Octets, End. -/
import Derived.Test.YtomjgjdnlbpleaaRdC
namespace Go.Proofs.Ytomjgjdnlbpleaa.Stream
open Go.RowKit Go.Proofs.Ytomjgjdnlbpleaa.Sep Go.Proofs.Ytomjgjdnlbpleaa.Bits Go.Proofs.Ytomjgjdnlbpleaa.Num
variable {B : Nat} {w0 w : World} {R : HP} {a : Nat} {xs : List Int} {p : Nat} {L : List Bool}

theorem octL_bytes (L : List Bool) (p n : Nat) (hn : 0 < n) (h : p + 8 * n ≤ L.length) : bytesOf ((L.drop p).take (8 * n)) = octL L p n := by
  have hl : ((L.drop p).take (8 * n)).length = 8 * n := by rw [List.length_take, List.length_drop]; omega
  have hne : (L.drop p).take (8 * n) ≠ [] := by intro e; rw [e] at hl; simp at hl; omega
  unfold bytesOf
  rw [if_neg hne, ← partF_pack _ (by rw [hl]; omega)]
  unfold partF octL
  rw [hl, show (8 * n + 7) / 8 = n from by omega]
  refine List.map_congr_left fun j hj => ?_
  have hj : j < n := List.mem_range.1 hj
  congr 1
  rw [List.drop_take, List.drop_drop, List.take_take, show min 8 (8 * n - 8 * j) = 8 from by omega]
theorem strOf_extract (L : List Bool) (p q : Nat) : (strOf L).extract p q = strOf ((L.drop p).take (q - p)) := by
  have e : (strOf L).extract p q = ⟨(strOf L).data.extract p q⟩ := by
    apply ByteArray.ext
    rw [ByteArray.data_extract]
  rw [e]
  apply ByteArray.ext
  apply Array.ext'
  simp only [Array.toList_extract]
  have h1 : (strOf L).data.toList = (L.map chrB).map fun x => UInt8.ofNat x.toNat := strOfNums_data _
  have h2 : (strOf ((L.drop p).take (q - p))).data.toList = (((L.drop p).take (q - p)).map chrB).map fun x => UInt8.ofNat x.toNat := strOfNums_data _
  rw [h1, h2, List.extract_eq_take_drop]
  simp [List.map_drop, List.map_take]

theorem qocts_bad (n : Int) (w : World) (ad : Addr) (hn : n < 0) :
    Calls Try.prog 48 #[.pointer (some ad), .int .i64 n] w fun e w' => e = .returned (.tuple #[.slice none 0 0, .int .i64 1]) ∧ w = w' := by
  go_enter Try.func48, Try.ntmps48
  go_wp2
  go_ret2
  exact ⟨rfl, rfl⟩
theorem qocts_short (n : Int) (h : St B w0 w (Qr a L p • R)) (hp : p ≤ L.length) (hb : L.length ≤ 8000000000000) (h0 : 0 ≤ n) (hs : (((L.length - p) / 8 : Nat) : Int) < n) :
    Calls Try.prog 48 #[.pointer (some ⟨a, 0, none⟩), .int .i64 n] w fun e w' => e = .returned (.tuple #[.slice none 0 0, .int .i64 2]) ∧ St B w0 w' (Qr a L p • R) := by
  obtain ⟨c0, c1, f1, -⟩ := Qr.cells h
  have H := Lib.hid h
  have hsz := strOf_size L
  rw [← hsz] at hp hb hs
  have hlt : (((strOf L).size : Int) - p) / 8 < n := by omega
  have hge : 0 ≤ ((strOf L).size : Int) - p := by omega
  clear h hsz hs
  go_enter Try.func48, Try.ntmps48
  go_wp2
  go_region
  go_wp2
  all_goals (go_ret2; exact ⟨rfl, H.out.drew⟩)

theorem qocts_zero (h : St B w0 w (Qr a L p • R)) (hp : p ≤ L.length) (hb : L.length ≤ 8000000000000) :
    Calls Try.prog 48 #[.pointer (some ⟨a, 0, none⟩), .int .i64 0] w fun e w' => e = .returned (.tuple #[.slice none 0 0, .int .i64 0]) ∧ St B w0 w' (Qr a L p • R) := by
  obtain ⟨c0, c1, f1, -⟩ := Qr.cells h
  have H := Lib.hid h
  have hsz := strOf_size L
  rw [← hsz] at hp hb
  have hge : 0 ≤ ((strOf L).size : Int) - p := by omega
  have hlt : ¬ ((((strOf L).size : Int) - p) / 8 < 0) := by omega
  clear h hsz
  go_enter Try.func48, Try.ntmps48
  go_wp2
  go_region
  go_wp2
  all_goals (go_ret2; exact ⟨rfl, H.out.drew⟩)

set_option maxHeartbeats 800000 in
theorem qocts_ok (n : Nat) (hn : 0 < n) (h : St B w0 w (Qr a L p • R)) (hp : p + 8 * n ≤ L.length) (hb : L.length ≤ 1000000000000) :
    Calls Try.prog 48 #[.pointer (some ⟨a, 0, none⟩), .int .i64 n] w fun e w' => ∃ v, e = .returned (.tuple #[v, .int .i64 0]) ∧ St B w0 w' (Row8 v (octL L p n) • Qr a L (p + 8 * n) • R) := by
  obtain ⟨c0, c1, f1, -⟩ := Qr.cells h
  have H := Lib.hid h
  have hsz := strOf_size L
  obtain ⟨m8, hm8⟩ : ∃ m8, m8 = 8 * n := ⟨_, rfl⟩
  obtain ⟨q, hq⟩ : ∃ q, q = p + 8 * n := ⟨_, rfl⟩
  have hw1 : IntKind.i64.wrap (8 * (n : Int)) = (m8 : Int) := by rw [IntKind.wrap_i64]; omega
  have hw2 : IntKind.i64.wrap ((p : Int) + m8) = (q : Int) := by rw [IntKind.wrap_i64]; omega
  have hcall : ∀ (W : World), St B w0 W (Qr a L p • R) → Calls Try.prog 25 #[.string ((strOf L).extract p q)] W fun e w' => ∃ v', e = .returned v' ∧ St B w0 w' (Row8 v' (octL L p n) • Qr a L p • R) := by
    intro W hW
    rw [strOf_extract L p q, ← octL_bytes L p n hn hp, show q - p = 8 * n from by omega]
    exact rbytes_calls _ (by rw [List.length_take]; omega) hW
  have HC := Lib.hid (And.intro hcall (And.intro hm8 hq))
  rw [← hsz] at hp hb
  have hge : 0 ≤ ((strOf L).size : Int) - p := by omega
  have hlt : ¬ ((((strOf L).size : Int) - p) / 8 < n) := by omega
  have hz : ((n : Int) == 0) = false := by rw [beq_eq_false_iff_ne]; omega
  have hpq : (p : Int) ≤ q := by omega
  have hp0 : (0 : Int) ≤ p := by omega
  have hqs : (q : Int) ≤ (strOf L).size := by omega
  have hsm : (strOf L).size ≤ 9223372036854775807 := by omega
  clear h hsz hcall hq hm8
  go_enter Try.func48, Try.ntmps48
  go_wp2
  go_region
  go_wp2
  go_region_held3 (fun W => W.cell? ⟨a, 0, none⟩ = some (.string (strOf L)) ∧ W.cell? ⟨a, 1, none⟩ = some (.int .i64 p)) (first | go_keep | exact ⟨(Qr.cells h3.two).1, (Qr.cells h3.two).2.1⟩)
    ((go_at_call 25; refine (HC.out.1 _ H.out.drew.drew).mono ?_; rintro e w2 ⟨v2, rfl, h3⟩))
  obtain ⟨c0', c1', f1', hset⟩ := Qr.cells h3.two
  have hs2 := hset (p + 8 * n)
  rw [show ((p + 8 * n : Nat) : Int) = (p : Int) + 8 * n from by omega] at hs2
  have H3 := Lib.hid hs2.two
  clear hset hs2 h3 hw1 hw2
  go_wp2
  go_ret2
  exact ⟨_, rfl, H3.out⟩

theorem qocts_any (n : Int) (h : St B w0 w (Qr a L p • R)) (hp : p ≤ L.length) (hb : L.length ≤ 1000000000000) :
    Calls Try.prog 48 #[.pointer (some ⟨a, 0, none⟩), .int .i64 n] w fun e w' => ∃ v, e = .returned (.tuple #[v, .int .i64 (octE L p n)]) ∧ St B w0 w' (Row8 v (octV L p n) • Qr a L (octP L p n) • R) := by
  by_cases h1 : n < 0
  · have he : octE L p n = 1 := by unfold octE; rw [if_pos h1]
    refine (qocts_bad n w _ h1).mono ?_
    rintro e w' ⟨rfl, rfl⟩
    rw [octV, octP, he]
    exact ⟨_, rfl, h.nil _ _⟩
  · by_cases h2 : (((L.length - p) / 8 : Nat) : Int) < n
    · have he : octE L p n = 2 := by unfold octE; rw [if_neg h1, if_pos h2]
      refine (qocts_short n h hp (by omega) (by omega) h2).mono ?_
      rintro e w' ⟨rfl, h3⟩
      rw [octV, octP, he]
      exact ⟨_, rfl, h3.nil _ _⟩
    · have he : octE L p n = 0 := by unfold octE; rw [if_neg h1, if_neg h2]
      obtain ⟨m, rfl⟩ := Int.eq_ofNat_of_zero_le (show 0 ≤ n by omega)
      rw [octV, octP, he]
      by_cases hm : m = 0
      · subst hm
        refine (qocts_zero h hp (by omega)).mono ?_
        rintro e w' ⟨rfl, h3⟩
        exact ⟨_, rfl, h3.nil _ _⟩
      · exact qocts_ok m (by omega) h (by omega) hb

theorem strOf_toList (L : List Bool) : (strOf L).toList = L.map fun b => if b then 49 else 48 := by
  have h1 : (strOf L).data.toList = (L.map chrB).map fun x => UInt8.ofNat x.toNat := strOfNums_data _
  have h2 : (strOf L).toList = (strOf L).data.toList := ByteArray.toList_eq _
  rw [h2, h1, List.map_map]
  refine List.map_congr_left fun b _ => ?_
  cases b <;> rfl
theorem strOf_zero8 (L : List Bool) : ((strOf L).toList == [48, 48, 48, 48, 48, 48, 48, 48]) = decide (L = putB 0 8) := by
  rw [strOf_toList, putB0, Bool.eq_iff_iff, beq_iff_eq, decide_eq_true_iff]
  constructor
  · intro h
    match L, congrArg List.length h with
    | [a, b, c, d, e, f, g, h'], _ =>
      simp only [List.map_cons, List.map_nil, List.cons.injEq, and_true] at h
      have hf : ∀ x : Bool, (if x then (49 : UInt8) else 48) = 48 → x = false := fun x hx => by cases x; rfl; simp at hx
      obtain ⟨h0, h1, h2, h3, h4, h5, h6, h7⟩ := h
      rw [hf _ h0, hf _ h1, hf _ h2, hf _ h3, hf _ h4, hf _ h5, hf _ h6, hf _ h7]
  · rintro rfl
    rfl

set_option maxHeartbeats 800000 in
theorem qend_calls (h : St B w0 w (Qr a L p • R)) (hp : p ≤ L.length) (hb : L.length ≤ 1000000000000) (h8 : L.length % 8 = 0) :
    Calls Try.prog 50 #[.pointer (some ⟨a, 0, none⟩)] w fun e w' => e = .returned (.int .i64 (endE L p)) ∧ St B w0 w' (Qr a L p • R) := by
  obtain ⟨c0, c1, f1, -⟩ := Qr.cells h
  have hsz := strOf_size L
  have H := Lib.hid (And.intro h hsz)
  have hps : p ≤ (strOf L).size := by omega
  have hsb : (strOf L).size ≤ 1000000000000 := by omega
  have hz8 := strOf_zero8 L
  obtain ⟨z, hz⟩ : ∃ z : Int, z = ((strOf L).size : Int) - p := ⟨_, rfl⟩
  have hw : IntKind.i64.wrap (((strOf L).size : Int) - p) = z := by rw [IntKind.wrap_i64, hz]; omega
  have HZ := Lib.hid hz
  by_cases h0 : p = 0
  · have t0 : ((p : Int) == 0) = true := by rw [h0]; rfl
    by_cases hL : L = putB 0 8
    · have hE : endE L p = 0 := by unfold endE; rw [if_pos ⟨h0, hL⟩]
      rw [decide_eq_true hL] at hz8
      have HE := Lib.hid hE
      clear h hsz hE hL hw hz h0
      go_enter Try.func50, Try.ntmps50
      go_wp2
      go_ret
      rw [HE.out]
      exact ⟨rfl, H.out.1⟩
    · have hE : endE L p = 3 := by unfold endE; rw [if_neg (fun h => hL h.2), if_pos (.inl h0)]
      rw [decide_eq_false hL] at hz8
      have HE := Lib.hid hE
      clear h hsz hE hL hz h0
      by_cases hs8 : 8 ≤ z
      · have hd : decide (z ≥ 8) = true := decide_eq_true hs8
        go_enter Try.func50, Try.ntmps50
        go_wp2
        go_quiet (fail)
        go_wp2
        go_ret
        rw [HE.out]
        exact ⟨rfl, H.out.1.drewN _⟩
      · have hd : decide (z ≥ 8) = false := decide_eq_false hs8
        go_enter Try.func50, Try.ntmps50
        go_wp2
        go_quiet (fail)
        go_wp2
        go_ret
        rw [HE.out]
        exact ⟨rfl, H.out.1.drewN _⟩
  · have t0 : ((p : Int) == 0) = false := by rw [beq_eq_false_iff_ne]; omega
    by_cases hs8 : 8 ≤ z
    · have hE : endE L p = 3 := by unfold endE; rw [if_neg (fun h => h0 h.1), if_pos (.inr (by omega))]
      have HE := Lib.hid hE
      clear h hsz hE hz h0
      have hd : decide (z ≥ 8) = true := decide_eq_true hs8
      go_enter Try.func50, Try.ntmps50
      go_wp2
      go_quiet (fail)
      go_wp2
      go_ret
      rw [HE.out]
      exact ⟨rfl, H.out.1.drewN _⟩
    · have hE : ∀ r, anyB L p L.length = r → endE L p = (if r = true then 3 else 0) := by
        intro r hr
        unfold endE
        rw [if_neg (fun h => h0 h.1), if_neg (by omega)]
        unfold alignE
        have hu : L.length = upTo8 p := by unfold upTo8; omega
        rw [← hu, hr]
      have HE := Lib.hid (And.intro hE hsz)
      have hd : decide (z ≥ 8) = false := decide_eq_false hs8
      clear h hsz hE hz h0
      go_enter Try.func50, Try.ntmps50
      go_wp2
      go_quiet (fail)
      clear hw
      go_wp2
      go_loop [3] (fun i => ∃ k : Nat, p ≤ k ∧ k ≤ (strOf L).size ∧ i = .int .i64 k ∧ Hid (∀ j, p ≤ j → j < k → L[j]? ≠ some true)) (fun i => (strOf L).size - (intOf i).toNat)
      case atStart => exact ⟨p, Nat.le_refl _, hps, rfl, Lib.hid fun j h1 h2 => by omega⟩
      case round =>
        obtain ⟨k, hk1, hk2, rfl, HK⟩ := hrel
        by_cases hlt : k < (strOf L).size
        · obtain ⟨b, hbk⟩ : ∃ b, L[k]? = some b := ⟨_, List.getElem?_eq_getElem (by have := HE.out.2; omega)⟩
          have hch := strOf_get L k b hbk hlt
          have HB := Lib.hid hbk
          cases b with
          | true =>
            have ht : ((((strOf L)[k]'hlt).toNat : Int) != 48) = true := by rw [hch]; rfl
            clear hch hbk
            go_wp2
            go_ret
            rw [HE.out.1 true (anyB_true _ p _ k hk1 (by have := HE.out.2; omega) HB.out)]
            exact ⟨rfl, H.out.1.drewN _⟩
          | false =>
            have ht : ((((strOf L)[k]'hlt).toNat : Int) != 48) = false := by rw [hch]; rfl
            clear hch hbk
            go_wp2
            refine ⟨⟨k + 1, by omega, by omega, by go_num, Lib.hid fun j h1 h2 => ?_⟩, by simp only [intOf]; omega⟩
            by_cases hj : j < k
            · exact HK.out j h1 hj
            · rw [show j = k from by omega, HB.out]; simp
        · obtain rfl : k = (strOf L).size := by omega
          have he := HE.out.1 false (anyB_false _ p _ fun j h1 h2 => HK.out j h1 (by have := HE.out.2; omega))
          have HE2 := Lib.hid he
          clear he
          go_wp2
          go_ret
          rw [HE2.out]
          exact ⟨rfl, H.out.1.drewN _⟩
end Go.Proofs.Ytomjgjdnlbpleaa.Stream
