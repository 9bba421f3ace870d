/- The walks of layer 1's reader: New, left, bit, Get, Pos. -/
import Derived.Test.YtomjgjdnlbpleaaStrmO
import Derived.Test.YtomjgjdnlbpleaaRdM
import Derived.Test.YtomjgjdnlbpleaaOpen
import Derived.Deep.RegionHeld3
namespace Go.Proofs.Ytomjgjdnlbpleaa.Stream
open Go.RowKit Go.Proofs.Ytomjgjdnlbpleaa.Sep Go.Proofs.Ytomjgjdnlbpleaa.Bits Go.Proofs.Ytomjgjdnlbpleaa.Num
variable {B : Nat} {w0 w : World} {R : HP} {a : Nat} {xs : List Int} {p : Nat}

/-- A reader at a block: its octets in a row of its own, and the place. -/
def Rd (a : Nat) (xs : List Int) (p : Nat) : HP where
  on w F := ∃ v t, (Blk a (.cells #[v, .int .i64 p] t (0, 0)) • Row8 v xs).on w F
  loc := fun ⟨v, t, h⟩ hk => ⟨v, t, (sep _ _).loc h hk⟩
  up := fun ⟨v, t, h⟩ hk => ⟨v, t, (sep _ _).up h hk⟩
theorem Rd.open_ (h : St B w0 w (Rd a xs p • R)) : ∃ v t, St B w0 w (Blk a (.cells #[v, .int .i64 p] t (0, 0)) • Row8 v xs • R) := by
  obtain ⟨hb, hs, F, hF, F1, F2, h1, h2, hd, ⟨v, t, ha⟩, hr⟩ := h
  exact ⟨v, t, St.assoc ⟨hb, hs, F, hF, F1, F2, h1, h2, hd, ha, hr⟩⟩
theorem Rd.shut {v : Value} {t : TypeId} {q : Int} (h : St B w0 w (Blk a (.cells #[v, .int .i64 q] t (0, 0)) • Row8 v xs • R)) (hk : q = p) : St B w0 w (Rd a xs p • R) := by
  subst hk
  exact h.assoc'.mapFirst fun w F hh => ⟨v, t, hh⟩
/-- What a reader's cells hold; how it moves. -/
theorem Rd.cells (h : St B w0 w (Rd a xs p • R)) : ∃ A c, w.cell? ⟨a, 0, none⟩ = some (.slice A xs.length c) ∧ w.cell? ⟨a, 1, none⟩ = some (.int .i64 p) ∧ w.frozen? ⟨a, 1, none⟩ = false ∧ xs.length ≤ c ∧ c ≤ 9223372036854775807 ∧
    (0 < xs.length → ∃ g, A = some ⟨g, 0, none⟩ ∧ ∀ j x, xs[j]? = some x → w.cell? ⟨g, j, none⟩ = some (.int .u8 x)) ∧
    ∀ q : Nat, St B w0 (w.setCell ⟨a, 1, none⟩ (.int .i64 q)) (Rd a xs q • R) := by
  obtain ⟨v, t, h1⟩ := Rd.open_ h
  have h2 := h1.two
  rcases h2.rowForm with ⟨rfl, hn, hx⟩ | ⟨g, cap, cur, lo, hi, rfl, hf, hnc, hc, hs, hx, hb⟩
  · have e : xs = [] := List.eq_nil_of_length_eq_zero hn
    subst e
    exact ⟨none, 0, h1.cell 0 rfl, h1.cell 1 rfl, h1.free 1 (.inr (Nat.le_refl _)), Nat.le_refl _, by decide, fun h => absurd h (by decide), fun q => Rd.shut (h1.set 1 (.int .i64 q)) rfl⟩
  · refine ⟨_, cap, h1.cell 0 rfl, h1.cell 1 rfl, h1.free 1 (.inr (Nat.le_refl _)), hnc, by simpa [maxLen] using hc, fun h => ⟨g, rfl, fun j x hj => ?_⟩, fun q => Rd.shut (h1.set 1 (.int .i64 q)) rfl⟩
    refine hb.cell j ?_
    have h3 : (xs.map (Value.int .u8))[j]? = some (.int .u8 x) := by rw [List.getElem?_map, hj]; rfl
    rw [← hx, List.getElem?_take] at h3
    split at h3
    · simpa using h3
    · cases h3

theorem Oct_ret {k : IntKind} {a b : Int} (h : a = b) : Ending.returned (.int k a) = .returned (.int k b) := by rw [h]
theorem new_calls (v : Value) (h : St B w0 w R) (hr : ∀ w', St B w0 w' R → Reads8 w' v xs) (hb : xs.length ≤ 70368744177664) :
    Calls Try.prog 40 #[v] w fun e w' => ∃ a, e = .returned (.pointer (some ⟨a, 0, none⟩)) ∧ St B w0 w' (Rd a xs 0 • R) := by
  have H := Lib.hid (And.intro h hr)
  clear h hr
  go_enter Try.func40, Try.ntmps40
  go_wp2_with fail
  refine (clone_calls v xs H.out.1 H.out.2 hb).mono ?_
  rintro e w1 ⟨v', rfl, h2⟩
  obtain ⟨_, A, c, rfl, -⟩ := h2.reads
  have H2 := Lib.hid h2
  clear h2 H
  go_wp2
  go_ret
  refine ⟨_, rfl, ?_⟩
  exact Rd.shut (H2.out.alloc _) rfl

theorem left_calls (h : St B w0 w (Rd a xs p • R)) (hp : p ≤ 8 * xs.length) (hb : xs.length ≤ 1000000000000) :
    Calls Try.prog 58 #[.pointer (some ⟨a, 0, none⟩)] w fun e w' => e = .returned (.int .i64 ((8 * xs.length : Nat) - (p : Int))) ∧ w' = w.drew := by
  obtain ⟨A, c, c0, c1, -, -, -, -⟩ := Rd.cells h
  clear h
  generalize xs.length = n at *
  go_enter Try.func58, Try.ntmps58
  go_wp2
  go_region
  go_wp2
  go_ret
  exact ⟨Oct_ret (by omega), rfl⟩

theorem bit_calls (k : Nat) (h : St B w0 w (Rd a xs p • R)) (hk : k < 8 * xs.length) (hb : xs.length ≤ 1000000000000) (hx : ∀ x ∈ xs, 0 ≤ x ∧ x < 256) :
    Calls Try.prog 59 #[.pointer (some ⟨a, 0, none⟩), .int .i64 k] w fun e w' => e = .returned (.int .u8 (bitAt (unpack xs) k)) ∧ w = w' := by
  obtain ⟨A, c, c0, -, -, hc, hcm, hrow, -⟩ := Rd.cells h
  obtain ⟨g, rfl, hcell⟩ := hrow (by omega)
  obtain ⟨x, hxk⟩ : ∃ x, xs[k / 8]? = some x := ⟨_, List.getElem?_eq_getElem (by omega)⟩
  have cx := hcell _ _ hxk
  obtain ⟨hx0, hx1⟩ := hx x (List.mem_of_getElem? hxk)
  have hfin : bitAt (unpack xs) k = Go.bits .and .u8 (x / 2 ^ (7 - k % 8)) 1 := by
    rw [bit_u8 x hx0 hx1, bitAt, List.getD, unpack_at xs k x hxk]
    rfl
  have HF := Lib.hid hfin
  have hk8 : k / 8 < xs.length := by omega
  have hkb : k ≤ 8000000000000 := by omega
  clear h hrow hcell hxk hx hfin
  generalize xs.length = n at *
  have hsh : min (7 - (k : Int) % 8).toNat 8 = 7 - k % 8 := by omega
  go_enter Try.func59, Try.ntmps59
  go_wp2
  go_ret
  exact ⟨by rw [HF.out]; rfl, rfl⟩
theorem bit_any (z : Int) (h : St B w0 w (Rd a xs p • R)) (h0 : 0 ≤ z) (hk : z < (8 * xs.length : Nat)) (hb : xs.length ≤ 1000000000000) (hx : ∀ x ∈ xs, 0 ≤ x ∧ x < 256) :
    Calls Try.prog 59 #[.pointer (some ⟨a, 0, none⟩), .int .i64 z] w fun e w' => e = .returned (.int .u8 (bitAt (unpack xs) z.toNat)) ∧ w = w' := by
  obtain ⟨k, rfl⟩ := Int.eq_ofNat_of_zero_le h0
  exact bit_calls k h (by omega) hb hx

theorem get_nil (width : Int) (w : World) :
    Calls Try.prog 41 #[.pointer none, .int .i64 width] w fun e w' => e = .returned (.tuple #[.int .u64 0, .int .i64 1]) ∧ w = w' := by
  go_enter Try.func41, Try.ntmps41
  go_wp2
  go_ret2
  exact ⟨rfl, rfl⟩
theorem get_bad (width : Int) (w : World) (ad : Addr) (hw : width < 0 ∨ 64 < width) :
    Calls Try.prog 41 #[.pointer (some ad), .int .i64 width] w fun e w' => e = .returned (.tuple #[.int .u64 0, .int .i64 1]) ∧ w = w' := by
  by_cases h : width < 0
  · go_enter Try.func41, Try.ntmps41
    go_wp2
    go_ret2
    exact ⟨rfl, rfl⟩
  · have h2 : 64 < width := by omega
    go_enter Try.func41, Try.ntmps41
    go_wp2
    go_ret2
    exact ⟨rfl, rfl⟩
theorem get_short (width : Int) (h : St B w0 w (Rd a xs p • R)) (hp : p ≤ 8 * xs.length) (hb : xs.length ≤ 1000000000000) (h0 : 0 ≤ width) (h64 : width ≤ 64) (hs : (8 * xs.length : Nat) - (p : Int) < width) :
    Calls Try.prog 41 #[.pointer (some ⟨a, 0, none⟩), .int .i64 width] w fun e w' => e = .returned (.tuple #[.int .u64 0, .int .i64 2]) ∧ St B w0 w' (Rd a xs p • R) := by
  have H := Lib.hid h
  clear h
  go_enter Try.func41, Try.ntmps41
  go_wp2_with fail
  refine (left_calls H.out hp hb).mono ?_
  rintro e w' ⟨rfl, rfl⟩
  go_wp2
  go_ret2
  exact ⟨rfl, H.out.drew⟩

set_option maxHeartbeats 400000 in
theorem get_ok (n : Nat) (h : St B w0 w (Rd a xs p • R)) (hp : p + n ≤ 8 * xs.length) (hb : xs.length ≤ 1000000000000) (hx : ∀ x ∈ xs, 0 ≤ x ∧ x < 256) (h64 : n ≤ 64) :
    Calls Try.prog 41 #[.pointer (some ⟨a, 0, none⟩), .int .i64 n] w fun e w' => e = .returned (.tuple #[.int .u64 (getB (((unpack xs).drop p).take n)), .int .i64 0]) ∧ St B w0 w' (Rd a xs (p + n) • R) := by
  have H := Lib.hid (And.intro h.drew hx)
  have HL := Lib.hid (fun W (hW : W = w) => left_calls (hW ▸ h) (by omega) hb)
  clear h hx
  have hle : ¬ ((8 * xs.length : Nat) - (p : Int) < n) := by omega
  have hpb : p ≤ 8000000000000 := by omega
  go_enter Try.func41, Try.ntmps41
  go_wp2_with fail
  refine (HL.out _ rfl).mono ?_
  rintro e w' ⟨rfl, rfl⟩
  obtain ⟨A, c, -, c1, f1, -, -, -, hset⟩ := Rd.cells H.out.1
  generalize w.drew = W at *
  have HSET := Lib.hid hset
  clear hset
  go_wp2_with fail
  go_loop [6, 25] (fun v i => ∃ k : Nat, k ≤ n ∧ i = .int .i64 k ∧ v = .int .u64 (getB (((unpack xs).drop p).take k))) (fun _ i => n - (intOf i).toNat)
  case atStart => exact ⟨0, Nat.zero_le _, rfl, rfl⟩
  case round =>
    obtain ⟨k, hk, rfl, rfl⟩ := hrel
    by_cases hlt : k < n
    · obtain ⟨hv0, hv1⟩ := getB_take_range (unpack xs) p k (by omega)
      obtain ⟨b, hbk⟩ : ∃ b, (unpack xs)[p + k]? = some b := ⟨_, List.getElem?_eq_getElem (by rw [unpack_length]; omega)⟩
      have hst := take_bit (unpack xs) p k b hbk
      have hbit : bitAt (unpack xs) ((p : Int) + k).toNat = b2i b := by
        rw [show ((p : Int) + k).toNat = p + k from by omega, bitAt, List.getD, hbk]; rfl
      generalize getB (((unpack xs).drop p).take k) = u at hst hv0 hv1
      have HV := Lib.hid (And.intro hst hbit)
      have hb01 := b2i_01 b
      clear hst hbk hbit
      go_wp2_with fail
      refine (bit_any ((p : Int) + k) H.out.1 (by omega) (by omega) hb H.out.2).mono ?_
      rintro e w' ⟨rfl, rfl⟩
      rw [HV.out.2]
      go_wp2
      exact ⟨⟨k + 1, by omega, by go_num, by rw [HV.out.1, or_one _ _ (by omega) (by omega) (by omega) (by omega) (by omega), Int.mul_comm]⟩, by simp only [intOf]; omega⟩
    · obtain rfl : k = n := by omega
      go_wp2
      go_ret2
      refine ⟨rfl, ?_⟩
      have := HSET.out (p + k)
      rw [show ((p + k : Nat) : Int) = (p : Int) + k from by omega] at this
      exact this

/-- Get, whatever it is asked for. -/
theorem get_any (width : Int) (h : St B w0 w (Rd a xs p • R)) (hp : p ≤ 8 * xs.length) (hb : xs.length ≤ 1000000000000) (hx : ∀ x ∈ xs, 0 ≤ x ∧ x < 256) :
    Calls Try.prog 41 #[.pointer (some ⟨a, 0, none⟩), .int .i64 width] w fun e w' => e = .returned (.tuple #[.int .u64 (getV (unpack xs) p width), .int .i64 (getE (unpack xs) p width)]) ∧ St B w0 w' (Rd a xs (getP (unpack xs) p width) • R) := by
  have hl := unpack_length xs
  by_cases h1 : width < 0 ∨ 64 < width
  · have he : getE (unpack xs) p width = 1 := by unfold getE; rw [if_pos h1]
    refine (get_bad width w _ h1).mono ?_
    rintro e w' ⟨rfl, rfl⟩
    rw [getV, getP, he]
    exact ⟨rfl, h⟩
  · by_cases h2 : ((unpack xs).length : Int) - p < width
    · have he : getE (unpack xs) p width = 2 := by unfold getE; rw [if_neg h1, if_pos h2]
      refine (get_short width h hp hb (by omega) (by omega) (by rw [hl] at h2; exact h2)).mono ?_
      rintro e w' ⟨rfl, h3⟩
      rw [getV, getP, he]
      exact ⟨rfl, h3⟩
    · have he : getE (unpack xs) p width = 0 := by unfold getE; rw [if_neg h1, if_neg h2]
      obtain ⟨n, rfl⟩ := Int.eq_ofNat_of_zero_le (show 0 ≤ width by omega)
      rw [getV, getP, he]
      exact get_ok n h (by omega) hb hx (by omega)

theorem pos_nil (w : World) :
    Calls Try.prog 42 #[.pointer none] w fun e w' => e = .returned (.int .i64 0) ∧ w = w' := by
  go_enter Try.func42, Try.ntmps42
  go_wp2
  go_ret
  exact ⟨rfl, rfl⟩
theorem pos_calls (h : St B w0 w (Rd a xs p • R)) :
    Calls Try.prog 42 #[.pointer (some ⟨a, 0, none⟩)] w fun e w' => e = .returned (.int .i64 p) ∧ w = w' := by
  obtain ⟨A, c, c0, c1, -⟩ := Rd.cells h
  clear h
  go_enter Try.func42, Try.ntmps42
  go_wp2
  go_ret
  exact ⟨rfl, rfl⟩
end Go.Proofs.Ytomjgjdnlbpleaa.Stream
