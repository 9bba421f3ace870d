/- The walks of slices.Grow at nil, slices.Concat of two, spans.Union. -/
import Derived.Test.YtkidoggmlafkgaaSpO
import Derived.Lib.AppendZeros
namespace Go.Proofs.Ytkidoggmlafkgaa.Span
open Go.RowKit Go.Proofs.Ytkidoggmlafkgaa.Sep
variable {B : Nat} {w0 w : World} {R : HP}

theorem grow_calls (n : Nat) (h : St B w0 w R) (hn : n ≤ 1000000000) :
    Calls Try.prog 57 #[.slice none 0 0, .int .i64 n] w fun e w' => ∃ v', e = .returned v' ∧ St B w0 w' (Row2 v' [] • R) := by
  have H := Lib.hid h
  clear h
  by_cases h0 : 0 < n
  · obtain ⟨i0, hi, hz0, hz1, hz2⟩ := info_parts info2
    have hrun := Lib.run_append_nil_zeros (P := Try.prog) w 22 3 22 32 i0 _ .i64 _ Try.underlying22 Try.underlying3 hi hz0 n h0 (by omega) (by omega) (by rw [hz2]; omega)
    have hge := grownCap_ge w n 0 32
    have hcm : grownCap w n 0 32 ≤ maxLen := grownCap_le_maxLen w n 0 32 (by simp only [maxLen]; omega)
    have HA := Lib.hid (H.out.drew.alloc (.cells (Builtin.zeroCells (Value.agg #[.int .i64 0, .int .i64 0]).cells n ++ Builtin.zeroCells (Value.agg #[.int .i64 0, .int .i64 0]).cells (grownCap w n 0 32 - n)) 32))
    have HS : Hid ((Builtin.zeroCells (Value.agg #[.int .i64 0, .int .i64 0]).cells n ++ Builtin.zeroCells (Value.agg #[.int .i64 0, .int .i64 0]).cells (grownCap w n 0 32 - n)).size = grownCap w n 0 32 * 2) := Lib.hid (by
      have e1 := zero_cells n
      have e2 := zero_cells (grownCap w n 0 32 - n)
      simp only [Array.length_toList] at e1 e2
      rw [Array.size_append, e1, e2]
      omega)
    have hgr : (0 : Int) < n := by omega
    clear hz0 hz1 hz2 hi
    go_enter Try.func57, Try.ntmps57
    go_wp2_with (at_builtin; refine Lib.wpList_append_run _ rfl _ _ _ _ rfl _ _ rfl rfl _ _ hrun ?_)
    go_ret
    exact ⟨_, rfl, HA.out.blkRow (n := 0) (size := 2) (xs := []) (Nat.zero_le _) hcm HS.out (.inr (Nat.le_refl _)) rfl⟩
  · obtain rfl : n = 0 := by omega
    go_enter Try.func57, Try.ntmps57
    go_wp2
    go_ret
    exact ⟨_, rfl, H.out.nil _ _⟩

set_option maxHeartbeats 1000000 in
theorem concat_calls (p : Nat) (va vb : Value) (a b : List Rg) (h : St B w0 w R) (hp : ∀ W, St B w0 W R → W.cell? ⟨p, 0, none⟩ = some va ∧ W.cell? ⟨p, 1, none⟩ = some vb) (ha : ∀ W, St B w0 W R → R2 W va a) (hb : ∀ W, St B w0 W R → R2 W vb b) (hla : a.length ≤ 100000000) (hlb : b.length ≤ 100000000) :
    Calls Try.prog 45 #[.slice (some ⟨p, 0, none⟩) 2 2] w fun e w' => ∃ v', e = .returned v' ∧ St B w0 w' (Row2 v' (a ++ b) • R) := by
  have H := Lib.hid (And.intro h (And.intro hp (And.intro ha hb)))
  obtain ⟨c0, c1⟩ := hp w h
  obtain ⟨A, c, rfl, -⟩ := ha w h
  obtain ⟨A', c', rfl, -⟩ := hb w h
  clear h hp ha hb
  go_enter Try.func45, Try.ntmps45
  go_wp2
  go_loop [3, 11] (fun z i => (z = .int .i64 0 ∧ i = .int .i64 0) ∨ (z = .int .i64 a.length ∧ i = .int .i64 1) ∨ (z = .int .i64 (a.length + b.length) ∧ i = .int .i64 2)) (fun _ i => 2 - (intOf i).toNat)
  case atStart => exact .inl ⟨rfl, rfl⟩
  case round =>
    rcases hrel with ⟨rfl, rfl⟩ | ⟨rfl, rfl⟩ | ⟨rfl, rfl⟩
    · go_wp2
      exact ⟨.inr (.inl ⟨by go_num, rfl⟩), by decide⟩
    · have hn : ¬ ((a.length : Int) + b.length < 0) := by omega
      go_wp2
      exact ⟨.inr (.inr ⟨by go_num, rfl⟩), by decide⟩
    · clear c0 c1
      go_wp2_with fail
      refine (grow_calls (a.length + b.length) H.out.1 (by omega)).mono ?_
      rintro e w1 ⟨v1, rfl, h1⟩
      have H1 := Lib.hid h1
      clear h1
      go_wp2_with fail
      go_loopw [6, 27] (fun vo i wr => (i = .int .i64 0 ∧ Hid (St B w0 wr (Row2 vo [] • R))) ∨ (i = .int .i64 1 ∧ Hid (St B w0 wr (Row2 vo ([] ++ a) • R))) ∨ (i = .int .i64 2 ∧ Hid (St B w0 wr (Row2 vo ([] ++ a ++ b) • R)))) (fun _ i _ => 2 - (intOf i).toNat)
      case atStart => exact .inl ⟨rfl, H1⟩
      case round =>
        clear H1
        rcases hrel with ⟨rfl, HS⟩ | ⟨rfl, HS⟩ | ⟨rfl, HS⟩
        · obtain ⟨c0, c1⟩ := H.out.2.1 _ HS.out.drop
          go_wp2_with (at_builtin; refine Held.out ?_)
          refine ⟨?_⟩
          refine append2 rfl _ _ rfl _ _ [] a rfl HS.out rfl (H.out.2.2.1 _ HS.out.drop).readsV (by simp; omega) ?_
          intro v' w5 h5
          have H5 := Lib.hid h5
          clear h5 HS c0 c1
          go_wp2
          exact ⟨.inr (.inl ⟨rfl, H5⟩), by decide⟩
        · obtain ⟨c0, c1⟩ := H.out.2.1 _ HS.out.drop
          go_wp2_with (at_builtin; refine Held.out ?_)
          refine ⟨?_⟩
          refine append2 rfl _ _ rfl _ _ ([] ++ a) b rfl HS.out rfl (H.out.2.2.2 _ HS.out.drop).readsV (by simp; omega) ?_
          intro v' w5 h5
          have H5 := Lib.hid h5
          clear h5 HS c0 c1
          go_wp2
          exact ⟨.inr (.inr ⟨rfl, H5⟩), by decide⟩
        · go_wp2
          go_ret
          exact ⟨_, rfl, HS.out⟩

theorem union_calls (va vb : Value) (a b : List Rg) (h : St B w0 w R) (ha : ∀ W, St B w0 W R → R2 W va a) (hb : ∀ W, St B w0 W R → R2 W vb b) (hla : a.length ≤ 100000000) (hlb : b.length ≤ 100000000) (hoa : ∀ r ∈ a, okR r) (hob : ∀ r ∈ b, okR r) :
    Calls Try.prog 21 #[va, vb] w fun e w' => ∃ v' u, e = .returned v' ∧ right u ∧ (∀ n, hasB u n = (hasB a n || hasB b n)) ∧ u.length ≤ a.length + b.length ∧ (∀ r ∈ u, okR r) ∧ St B w0 w' (Row2 v' u • R) := by
  have H := Lib.hid (And.intro h (And.intro ha hb))
  have HOK := Lib.hid (And.intro hoa hob)
  obtain ⟨A, c, rfl, -⟩ := ha w h
  obtain ⟨A', c', rfl, -⟩ := hb w h
  have HA := Lib.hid (h.alloc (.cells #[.slice A a.length c, .slice A' b.length c'] 22))
  clear h ha hb hoa hob
  go_enter Try.func21, Try.ntmps21
  go_wp2_with fail
  refine (concat_calls w.heap.size _ _ a b HA.out (fun W hW => ⟨hW.cell 0 rfl, hW.cell 1 rfl⟩) (fun W hW => H.out.2.1 W hW.drop) (fun W hW => H.out.2.2 W hW.drop) hla hlb).mono ?_
  rintro e w1 ⟨v1, rfl, h1⟩
  have H1 := Lib.hid h1
  clear h1 HA
  go_wp2_with fail
  refine (norm_calls v1 (a ++ b) H1.out (fun W hW => St.r2 hW) (by simp; omega) (fun r hr => by
    rcases List.mem_append.1 hr with hr | hr
    · exact HOK.out.1 r hr
    · exact HOK.out.2 r hr)).mono ?_
  rintro e w2 ⟨v2, u, rfl, hu1, hu2, hu3, hu4, hu5⟩
  have HU := Lib.hid (And.intro hu1 (And.intro hu2 (And.intro hu3 (And.intro hu4 hu5.drop2.drop2))))
  clear hu1 hu2 hu3 hu4 hu5
  go_wp2
  go_ret
  obtain ⟨hu1, hu2, hu3, hu4, hu5⟩ := HU.out
  exact ⟨_, u, rfl, hu1, fun n => by rw [hu2, hasB_append], by simpa using hu3, hu4, hu5⟩
end Go.Proofs.Ytkidoggmlafkgaa.Span
