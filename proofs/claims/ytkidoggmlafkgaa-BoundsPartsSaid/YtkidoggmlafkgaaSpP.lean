/- The walk of spans.Meet. -/
import Derived.Test.YtkidoggmlafkgaaSpO
namespace Go.Proofs.Ytkidoggmlafkgaa.Span
open Go.RowKit Go.Proofs.Ytkidoggmlafkgaa.Sep
variable {B : Nat} {w0 w : World} {R : HP}

def cut (x y : Rg) : Rg := (max x.1 y.1, min x.2 y.2)
def cuts (a b : List Rg) : List Rg := a.flatMap fun x => b.map (cut x)
theorem cuts_snoc (a b : List Rg) (x : Rg) : cuts (a ++ [x]) b = cuts a b ++ b.map (cut x) := by simp [cuts]
theorem cuts_length (a b : List Rg) : (cuts a b).length = a.length * b.length := by
  induction a with
  | nil => simp [cuts]
  | cons x a ih =>
    show (b.map (cut x) ++ cuts a b).length = _
    rw [List.length_append, ih, List.length_map, List.length_cons, Nat.add_mul]
    omega
theorem inR_cut (x y : Rg) (n : Int) : inR (cut x y) n = (inR x n && inR y n) := by
  unfold inR cut
  rw [Bool.eq_iff_iff]
  simp only [Bool.and_eq_true, decide_eq_true_eq]
  omega
theorem hasB_map (x : Rg) (b : List Rg) (n : Int) : hasB (b.map (cut x)) n = (inR x n && hasB b n) := by
  induction b with
  | nil => simp [hasB]
  | cons y b ih =>
    rw [List.map_cons, hasB_cons, hasB_cons, ih, inR_cut]
    cases inR x n <;> simp
theorem hasB_cuts (a b : List Rg) (n : Int) : hasB (cuts a b) n = (hasB a n && hasB b n) := by
  induction a with
  | nil => simp [cuts, hasB]
  | cons x a ih =>
    show hasB (b.map (cut x) ++ cuts a b) n = _
    rw [hasB_append, hasB_map, ih, hasB_cons]
    cases inR x n <;> simp
theorem ok_cut {x y : Rg} (hx : okR x) (hy : okR y) : okR (cut x y) := by
  unfold okR cut at *
  simp only
  omega
theorem ok_cuts {a b : List Rg} (ha : ∀ r ∈ a, okR r) (hb : ∀ r ∈ b, okR r) : ∀ r ∈ cuts a b, okR r := by
  intro r hr
  obtain ⟨x, hx, hr⟩ := List.mem_flatMap.1 hr
  obtain ⟨y, hy, rfl⟩ := List.mem_map.1 hr
  exact ok_cut (ha x hx) (hb y hy)

set_option maxHeartbeats 2000000 in
theorem meet_calls (va vb : Value) (a b : List Rg) (h : St B w0 w R) (ha : ∀ W, St B w0 W R → R2 W va a) (hb : ∀ W, St B w0 W R → R2 W vb b) (hab : a.length * b.length ≤ 100000000) (hoa : ∀ r ∈ a, okR r) (hob : ∀ r ∈ b, okR r) :
    Calls Try.prog 23 #[va, vb] w fun e w' => ∃ v' u, e = .returned v' ∧ right u ∧ (∀ n, hasB u n = (hasB a n && hasB b n)) ∧ u.length ≤ a.length * b.length ∧ (∀ r ∈ u, okR r) ∧ St B w0 w' (Row2 v' u • R) := by
  have H := Lib.hid (And.intro (h.nil 32 2) (And.intro ha hb))
  have HOK := Lib.hid (And.intro hoa hob)
  obtain ⟨A, c, rfl, hc, hcm, -⟩ := ha w h
  obtain ⟨A', c', rfl, hc', hcm', -⟩ := hb w h
  simp only [maxLen] at hcm hcm'
  have hla : a.length ≤ 9223372036854775807 := by omega
  have hlb : b.length ≤ 9223372036854775807 := by omega
  clear h ha hb hoa hob hc hcm hc' hcm'
  go_enter Try.func23, Try.ntmps23
  go_wp2_with fail
  go_loopw [5, 12] (fun vo i wr => ∃ k : Nat, k ≤ a.length ∧ i = .int .i64 k ∧ Hid (St B w0 wr (Row2 vo (cuts (a.take k) b) • R))) (fun _ i _ => a.length - (intOf i).toNat)
  case atStart => exact ⟨0, Nat.zero_le _, rfl, Lib.hid H.out.1⟩
  case round =>
    obtain ⟨k, hk, rfl, HS⟩ := hrel
    by_cases hlt : k < a.length
    · obtain ⟨x, hx⟩ : ∃ x, a[k]? = some x := ⟨_, List.getElem?_eq_getElem hlt⟩
      obtain ⟨_, _, e, _, _, hat⟩ := id (H.out.2.1 wr HS.out.drop)
      obtain ⟨g, off, e2, d0, d1⟩ := hat k x hx
      simp only [Value.slice.injEq] at e
      obtain ⟨rfl, -, rfl⟩ := e
      subst e2
      have HX := Lib.hid hx
      have HA := Lib.hid (show St B w0 (wr.alloc (.cells #[.int .i64 x.1, .int .i64 x.2] 32)) (Row2 u5 (cuts (a.take k) b ++ (b.take 0).map (cut x)) • Blk wr.heap.size (.cells #[.int .i64 x.1, .int .i64 x.2] 32) • R) from by simpa using (HS.out.alloc _).two)
      obtain ⟨x1, x2, x3, x4⟩ := HOK.out.1 x (List.mem_of_getElem? hx)
      have hmul : (k + 1) * b.length ≤ a.length * b.length := Nat.mul_le_mul_right _ hlt
      rw [Nat.add_mul] at hmul
      clear hat hx HS
      go_wp2_with fail
      go_loopw [5, 18] (fun vo i wq => ∃ j : Nat, j ≤ b.length ∧ i = .int .i64 j ∧ Hid (St B w0 wq (Row2 vo (cuts (a.take k) b ++ (b.take j).map (cut x)) • Blk wr.heap.size (.cells #[.int .i64 x.1, .int .i64 x.2] 32) • R))) (fun _ i _ => b.length - (intOf i).toNat)
      case atStart => exact ⟨0, Nat.zero_le _, rfl, HA⟩
      case round =>
        clear HA d0 d1
        obtain ⟨j, hj, rfl, HS⟩ := hrel
        by_cases hltb : j < b.length
        · obtain ⟨y, hy⟩ : ∃ y, b[j]? = some y := ⟨_, List.getElem?_eq_getElem hltb⟩
          obtain ⟨_, _, e, _, _, hat⟩ := id (H.out.2.2 _ HS.out.drop.drop)
          obtain ⟨g', off', e2, d0, d1⟩ := hat j y hy
          simp only [Value.slice.injEq] at e
          obtain ⟨rfl, -, rfl⟩ := e
          subst e2
          obtain ⟨y1, y2, y3, y4⟩ := HOK.out.2 y (List.mem_of_getElem? hy)
          have HY := Lib.hid hy
          have HQ := Lib.hid (HS.out.alloc (.cells #[.int .i64 y.1, .int .i64 y.2] 32))
          have m0 := HQ.out.three.cell 0 rfl
          have m1 := HQ.out.three.cell 1 rfl
          have n0 := HQ.out.cell 0 rfl
          have n1 := HQ.out.cell 1 rfl
          have hcl : (cuts (a.take k) b ++ (b.take j).map (cut x)).length ≤ 100000000 := by
            have h1 := cuts_length (a.take k) b
            rw [List.length_take, Nat.min_eq_left (by omega)] at h1
            rw [List.length_append, h1, List.length_map, List.length_take]
            omega
          have HL := Lib.hid hcl
          clear hat hy hcl HS y1 y2 y3 y4
          go_wp2_with (at_builtin; refine Held.out ?_)
          refine ⟨?_⟩
          refine append2 rfl _ _ rfl _ _ (cuts (a.take k) b ++ (b.take j).map (cut x)) [cut x y] rfl (HQ.out.alloc _).three rfl (blkReadsN (n := 1) (c := 1) (alloc_at (n := wr.heap.size + 1) HQ.out _ (by simp)) rfl (by decide) (by decide) rfl) (by have := HL.out; simp only [List.length_singleton]; omega) ?_
          intro v' w5 h5
          have H5 := Lib.hid h5.drop2.drop2
          clear h5 m0 m1 n0 n1 d0 d1 HQ
          go_wp2
          exact ⟨⟨j + 1, by omega, by go_num, Lib.hid (by
            rw [List.take_add_one, HY.out, Option.toList_some, List.map_append, ← List.append_assoc]
            exact H5.out)⟩, by simp only [intOf]; omega⟩
        · obtain rfl : j = b.length := by omega
          go_wp2_with fail
          exact ⟨⟨k + 1, by omega, by go_num, Lib.hid (by
            have h := HS.out.drop2
            rw [List.take_length, ← cuts_snoc] at h
            rw [List.take_add_one, HX.out]
            exact h)⟩, by simp only [intOf]; omega⟩
    · obtain rfl : k = a.length := by omega
      have hS := HS.out
      rw [List.take_length] at hS
      have hcl := cuts_length a b
      have HS2 := Lib.hid hS
      clear hS HS
      go_wp2_with fail
      refine (norm_calls _ (cuts a b) HS2.out (fun W hW => St.r2 hW) (by omega) (ok_cuts HOK.out.1 HOK.out.2)).mono ?_
      rintro e w' ⟨v', u, rfl, hu1, hu2, hu3, hu4, hu5⟩
      have HU := Lib.hid (And.intro hu1 (And.intro hu2 (And.intro hu4 hu5.drop2)))
      clear hu1 hu2 hu4 hu5 HS2
      go_wp2
      go_ret
      obtain ⟨hu1, hu2, hu4, hu5⟩ := HU.out
      exact ⟨_, u, rfl, hu1, fun n => by rw [hu2, hasB_cuts], by omega, hu4, hu5⟩
end Go.Proofs.Ytkidoggmlafkgaa.Span
