/- slices.Grow at nil, slices.Concat of two: walked, at string. -/
import Derived.Lib.AppendZeros
import Derived.Test.YtbjddomocggjmaaKW
namespace Go.Proofs.Ytbjddomocggjmaa.Sc
open Go.RowKit Go.ChangeShapes Go.WideShapes Go.Proofs.Ytbjddomocggjmaa.Sep
open Go.Proofs.YtbjddomocggjmaaW.PrintWords
variable {B : Nat} {w0 w w1 : World} {R : HP}
def strV (l : List ByteArray) : List Value := l.map Value.string
theorem str_rows {W : World} {A : Option Addr} {l : List ByteArray} (h : Kd.string.C W A l.length l) : ∀ (j : Nat) (u : Value), (strV l)[j]? = some u → ∃ ad, A = some ad ∧ W.cell? (ad.add j) = some u := by
  intro j u hu
  have hj := (List.getElem?_eq_some_iff.1 hu).1
  rw [strV, List.length_map] at hj
  obtain ⟨ad, e, hc⟩ := h.2.2 (by omega)
  obtain ⟨c, hcl, hk, hcell⟩ := hc j _ (List.getElem?_eq_getElem hj)
  obtain rfl : c = [.string l[j]] := hk
  refine ⟨ad, e, ?_⟩
  have h0 := hcell 0 _ rfl
  rw [strV, List.getElem?_map, List.getElem?_eq_getElem hj] at hu
  simp only [Option.map_some, Option.some.injEq] at hu
  subst hu
  have e1 : j * Kd.string.sz + 0 = j := Nat.mul_one j
  rwa [e1] at h0
theorem str_one (l : List ByteArray) : ∀ u ∈ strV l, u.oneCell' = true := by
  intro u hu
  obtain ⟨s, _, rfl⟩ := List.mem_map.1 hu
  rfl
/-- A row of texts, read. -/
theorem str_C {v : Value} {n : Nat} {l : List ByteArray} (hn : n = l.length) (h : St B w0 w (RowV 9 1 v n (strV l) • R)) : ∃ A c, v = .slice A l.length c ∧ Kd.string.C w A l.length l := by
  subst hn
  obtain ⟨h1, A, c, rfl, h2, h3, h4⟩ := h.reads
  refine ⟨A, c, rfl, rfl, by simp only [maxLen] at h3; omega, fun h0 => ?_⟩
  obtain ⟨ad, rfl, -⟩ := h4 0 _ (List.getElem?_eq_getElem (by rw [h1]; omega))
  refine ⟨ad, rfl, fun j p hp => ⟨[.string p], rfl, rfl, fun i u hu => ?_⟩⟩
  have hi : i = 0 := by have := (List.getElem?_eq_some_iff.1 hu).1; simp at this; omega
  subst hi
  simp only [List.getElem?_cons_zero, Option.some.injEq] at hu
  subst hu
  obtain ⟨ad', e, h5⟩ := h4 j (.string p) (by rw [strV, List.getElem?_map, hp]; rfl)
  cases e
  have e1 : j * Kd.string.sz + 0 = j := Nat.mul_one j
  rwa [e1]
theorem size_zs (n : Nat) : (Builtin.zeroCells (Value.string ByteArray.empty).cells n).size = n := by
  rw [size_zeroCells]
  exact Nat.mul_one n
set_option maxHeartbeats 2000000 in
set_option maxRecDepth 100000 in
theorem grow_calls (n : Nat) (h : St B w0 w R) (hn : n ≤ 1000000000) :
    Calls Try.prog 116 #[.slice none 0 0, .int .i64 n] w fun e w' => ∃ v', e = .returned v' ∧ St B w0 w' (RowV 9 1 v' 0 [] • R) := by
  have H := Lib.hid h
  clear h
  by_cases h0 : 0 < n
  · obtain ⟨i0, hi, hz0, hz1, hz2⟩ := info_parts info_strs
    have hrun := Lib.run_append_nil_zeros (P := Try.prog) w 51 3 51 9 i0 _ .i64 _ Try.underlying51 Try.underlying3 hi hz0 n h0 (by omega) (by omega) (by rw [hz2]; omega)
    have hge := grownCap_ge w n 0 9
    have hcm : grownCap w n 0 9 ≤ maxLen := grownCap_le_maxLen w n 0 9 (by simp only [maxLen]; omega)
    have HA := Lib.hid (H.out.drew.alloc (.cells (Builtin.zeroCells (Value.string ByteArray.empty).cells n ++ Builtin.zeroCells (Value.string ByteArray.empty).cells (grownCap w n 0 9 - n)) 9))
    have HS : Hid ((Builtin.zeroCells (Value.string ByteArray.empty).cells n ++ Builtin.zeroCells (Value.string ByteArray.empty).cells (grownCap w n 0 9 - n)).size = grownCap w n 0 9 * 1) := Lib.hid (by
      rw [Array.size_append, size_zs, size_zs]
      omega)
    have hgr : (0 : Int) < n := by omega
    clear hz0 hz1 hz2 hi
    go_enter Try.func116, Try.ntmps116
    go_wp2_with (at_builtin; refine Lib.wpList_append_run _ rfl _ _ _ _ rfl _ _ rfl rfl _ _ hrun ?_)
    go_ret
    exact ⟨_, rfl, HA.out.blkRow (n := 0) (size := 1) (xs := []) (Nat.zero_le _) hcm HS.out (.inr (Nat.le_refl _)) rfl⟩
  · obtain rfl : n = 0 := by omega
    go_enter Try.func116, Try.ntmps116
    go_wp2
    go_ret
    exact ⟨_, rfl, H.out.nil _ _⟩
set_option maxHeartbeats 2000000 in
set_option maxRecDepth 100000 in
theorem concat_calls (p : Nat) (A : Option Addr) (c : Nat) (A' : Option Addr) (c' : Nat) (a b : List ByteArray) (h : St B w0 w R) (hp : ∀ W, St B w0 W R → W.cell? ⟨p, 0, none⟩ = some (.slice A a.length c) ∧ W.cell? ⟨p, 1, none⟩ = some (.slice A' b.length c')) (ha : ∀ W, St B w0 W R → Kd.string.C W A a.length a) (hb : ∀ W, St B w0 W R → Kd.string.C W A' b.length b) (hla : a.length ≤ 1000000) (hlb : b.length ≤ 1000000) :
    Calls Try.prog 79 #[.slice (some ⟨p, 0, none⟩) 2 2] w fun e w' => ∃ v', e = .returned v' ∧ St B w0 w' (RowV 9 1 v' (a ++ b).length (strV (a ++ b)) • R) := by
  have H := Lib.hid (And.intro h (And.intro hp (And.intro ha hb)))
  obtain ⟨c0, c1⟩ := hp w h
  clear h hp ha hb
  go_enter Try.func79, Try.ntmps79
  go_wp2
  go_loop [3, 11] (fun z i => (z = .int .i64 0 ∧ i = .int .i64 0) ∨ (z = .int .i64 a.length ∧ i = .int .i64 1) ∨ (z = .int .i64 (a.length + b.length) ∧ i = .int .i64 2)) (fun _ i => 2 - (intOf i).toNat)
  case atStart => exact .inl ⟨rfl, rfl⟩
  case round =>
    rcases hrel with ⟨rfl, rfl⟩ | ⟨rfl, rfl⟩ | ⟨rfl, rfl⟩
    · go_wp2
      exact ⟨.inr (.inl ⟨by go_num, rfl⟩), by decide⟩
    · have hn : ¬ ((a.length : Int) + b.length < 0) := by omega
      go_wp2
      exact ⟨.inr (.inr ⟨by go_num, rfl⟩), by decide⟩
    · clear c0 c1
      go_wp2_with fail
      refine (grow_calls (a.length + b.length) H.out.1 (by omega)).mono ?_
      rintro e w1 ⟨v1, rfl, h1⟩
      have H1 := Lib.hid h1
      clear h1
      go_wp2_with fail
      go_loopw [6, 27] (fun vo i wr => (i = .int .i64 0 ∧ Hid (St B w0 wr (RowV 9 1 vo 0 [] • R))) ∨ (i = .int .i64 1 ∧ Hid (St B w0 wr (RowV 9 1 vo (0 + a.length) ([] ++ strV a) • R))) ∨ (i = .int .i64 2 ∧ Hid (St B w0 wr (RowV 9 1 vo (0 + a.length + b.length) ([] ++ strV a ++ strV b) • R)))) (fun _ i _ => 2 - (intOf i).toNat)
      case atStart => exact .inl ⟨rfl, H1⟩
      case round =>
        clear H1
        rcases hrel with ⟨rfl, HS⟩ | ⟨rfl, HS⟩ | ⟨rfl, HS⟩
        · obtain ⟨c0, c1⟩ := H.out.2.1 _ HS.out.drop
          go_wp2_with (at_builtin; refine Held.out ?_)
          refine ⟨?_⟩
          refine wpList_append (by rfl) _ _ Try.underlying51 info_strs rfl (by decide) rfl _ 0 [] rfl HS.out rfl (by simp [strV]) (str_rows (H.out.2.2.1 _ HS.out.drop)) (str_one a) (by simp only [maxLen]; omega) (by omega) ?_
          intro v' w5 h5
          have H5 := Lib.hid h5
          clear h5 HS c0 c1
          go_wp2
          exact ⟨.inr (.inl ⟨rfl, H5⟩), by decide⟩
        · obtain ⟨c0, c1⟩ := H.out.2.1 _ HS.out.drop
          go_wp2_with (at_builtin; refine Held.out ?_)
          refine ⟨?_⟩
          refine wpList_append (by rfl) _ _ Try.underlying51 info_strs rfl (by decide) rfl _ (0 + a.length) ([] ++ strV a) rfl HS.out rfl (by simp [strV]) (str_rows (H.out.2.2.2 _ HS.out.drop)) (str_one b) (by simp only [maxLen]; omega) (by omega) ?_
          intro v' w5 h5
          have H5 := Lib.hid h5
          clear h5 HS c0 c1
          go_wp2
          exact ⟨.inr (.inr ⟨rfl, H5⟩), by decide⟩
        · go_wp2
          go_ret
          exact ⟨_, rfl, by have h := HS.out; rw [show strV (a ++ b) = [] ++ strV a ++ strV b by simp [strV], show (a ++ b).length = 0 + a.length + b.length by simp]; exact h⟩
end Go.Proofs.Ytbjddomocggjmaa.Sc
