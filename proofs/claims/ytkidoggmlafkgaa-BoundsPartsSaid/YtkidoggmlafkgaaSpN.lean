/- The walks of slices.Clone and DeleteFunc at ranges. -/
import Derived.Test.YtkidoggmlafkgaaSpS
import Derived.Lib.SliceRun
namespace Go.Proofs.Ytkidoggmlafkgaa.Span
open Go.RowKit Go.Proofs.Ytkidoggmlafkgaa.Sep
variable {B : Nat} {w0 w : World} {R : HP}

theorem clone_calls (v : Value) (s : List Rg) (h : St B w0 w R) (ha : ∀ W, St B w0 W R → R2 W v s) (hs : s.length ≤ 1000000000) :
    Calls Try.prog 37 #[v] w fun e w' => ∃ v', e = .returned v' ∧ St B w0 w' (Row2 v' s • R) := by
  have H := Lib.hid (And.intro h ha)
  obtain ⟨A, c, rfl, hc, hcm, hat⟩ := ha w h
  clear h ha
  cases A with
  | none =>
    have e : s = [] := by
      cases s with
      | nil => rfl
      | cons r s => obtain ⟨_, _, e, _⟩ := hat 0 r rfl; cases e
    subst e
    clear hat hc hcm hs
    go_enter Try.func37, Try.ntmps37
    go_wp2
    simp only [Lib.run_eql_slice_nil (P := Try.prog) _ _ _ _ _ _ _ _ Try.underlying22, Result.andThen_ok]
    go_wp2
    go_ret
    exact ⟨_, rfl, H.out.1.nil _ _⟩
  | some ad =>
    clear hat
    go_enter Try.func37, Try.ntmps37
    go_wp2
    simp only [Lib.run_eql_slice_nil (P := Try.prog) _ _ _ _ _ _ _ _ Try.underlying22, Result.andThen_ok]
    go_wp2_with (at_builtin; refine append2 rfl _ _ rfl _ (.slice (some ad) s.length c) [] s rfl ((H.out.1.alloc _).blkRow (n := 0) (cap := 0) (size := 2) (xs := []) (by decide) (by decide) rfl (.inl (Nat.le_refl _)) rfl) rfl (H.out.2 _ (H.out.1.alloc _).drop).readsV (by simp; omega) ?_; intro v' w5 h5; have H5 := Lib.hid h5; clear h5)
    go_ret
    exact ⟨_, rfl, H5.out⟩

def goodR (r : Rg) : Bool := !badR r
theorem zero_cells : ∀ m : Nat, (Builtin.zeroCells (Value.agg #[.int .i64 0, .int .i64 0]).cells m).toList.length = m * 2 := by
  intro m
  simp [size_zeroCells]
  rfl
/-- clear, of the end of a row of ranges. -/
theorem clear2 (ty : TypeId) (g k m c cap : Nat) (cur : Array Value) (T : TypeId) (lo hi : Nat)
    (hm : 0 < m) (h : St B w0 w (Blk g (.cells cur T (lo, hi)) • R)) (hf : cur.size ≤ lo ∨ hi ≤ lo) (hc : cur.size = cap * 2) (hk : k + m ≤ cap) :
    ∃ cur' w', (Builtin.clear_ #[22] ty #[.slice (some ⟨g, k * 2, none⟩) m c]).run Try.prog w = .ok (.tuple #[]) w' ∧ cur'.size = cap * 2 ∧ cur'.toList.take (k * 2) = cur.toList.take (k * 2) ∧ St B w0 w' (Blk g (.cells cur' T (lo, hi)) • R) := by
  have hl := zero_cells m
  have h1 : ∀ v ∈ (Builtin.zeroCells (Value.agg #[.int .i64 0, .int .i64 0]).cells m).toList, v.oneCell' = true := by
    intro v hv
    simp only [Builtin.zeroCells, Array.mem_toList_iff] at hv
    obtain ⟨i, _, rfl⟩ := Array.mem_map.1 hv
    show ((#[Value.int .i64 0, Value.int .i64 0])[i % 2]!).oneCell' = true
    rcases Nat.mod_two_eq_zero_or_one i with e | e <;> rw [e] <;> rfl
  have hrun := run_storeCells_off (P := Try.prog) g (k * 2) lo hi T (Builtin.zeroCells (Value.agg #[.int .i64 0, .int .i64 0]).cells m).toList 0 cur w h.block (by rw [hl]; omega) hf h1
  have hz : ∀ w, (zeroValue 32).run Try.prog w = .ok (.agg #[.int .i64 0, .int .i64 0]) w := Try.zeroValue32
  obtain ⟨m, rfl⟩ : ∃ j, m = j + 1 := ⟨m - 1, by omega⟩
  refine ⟨(cur.toList.take (k * 2 + 0) ++ (Builtin.zeroCells (Value.agg #[.int .i64 0, .int .i64 0]).cells (m + 1)).toList ++ cur.toList.drop (k * 2 + 0 + (Builtin.zeroCells (Value.agg #[.int .i64 0, .int .i64 0]).cells (m + 1)).toList.length)).toArray, w.setRow g ((cur.toList.take (k * 2 + 0) ++ (Builtin.zeroCells (Value.agg #[.int .i64 0, .int .i64 0]).cells (m + 1)).toList ++ cur.toList.drop (k * 2 + 0 + (Builtin.zeroCells (Value.agg #[.int .i64 0, .int .i64 0]).cells (m + 1)).toList.length)).toArray), ?_, ?_, ?_, ?_⟩
  · simp [Builtin.clear_, run_underlying Try.underlying22, hz, hrun]
  · simp only [List.size_toArray, List.length_append, List.length_take, List.length_drop, Array.length_toList, hl]
    omega
  · simp only [List.append_assoc, Nat.add_zero]
    rw [List.take_append_of_le_length (by rw [List.length_take, Array.length_toList]; omega), List.take_take, Nat.min_self]
  · exact h.step (by simp [World.setRow]) rfl rfl rfl fun F hF ⟨hf, hb'⟩ => ⟨fun k hk hn => setRow_other w g k _ (fun e => hn (by subst e; exact hf)), F, fun b hb => .inl hb, hf, setRow_heap w g cur _ T _ hb'⟩
end Go.Proofs.Ytkidoggmlafkgaa.Span
