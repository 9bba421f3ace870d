/- Arguments that are slices of whole numbers, read as lists. -/
import Derived.Test.YtbjddomocggjmaaSep
import Derived.ProofKit
import Derived.OpenShut
import Derived.ShutString
import Derived.ChangeOld
import Derived.SizedLaws
import Derived.Deep.Slices
namespace Go.Proofs.Ytbjddomocggjmaa.Open
open Go.ChangeShapes Go.WideShapes Go.ChangeAt Go.RowKit Go.Proofs.Ytbjddomocggjmaa.Sep

theorem wf_u8 {n : Int} (h : (Lit.int .u8 n).wf = true) : 0 ≤ n ∧ n < 256 := by
  simp [Lit.wf, IntKind.min, IntKind.max, IntKind.bits, IntKind.signed] at h
  omega
theorem wf_u64 {n : Int} (h : (Lit.int .u64 n).wf = true) : 0 ≤ n ∧ n < 18446744073709551616 := by
  simp [Lit.wf, IntKind.min, IntKind.max, IntKind.bits, IntKind.signed] at h
  omega
theorem wf_i64 {n : Int} (h : (Lit.int .i64 n).wf = true) : -9223372036854775808 ≤ n ∧ n ≤ 9223372036854775807 := by
  simp [Lit.wf, IntKind.min, IntKind.max, IntKind.bits, IntKind.signed] at h
  omega

/-- A slice of whole numbers that came in: what it reads as, and how long it may be. -/
theorem open_nums {H : Type} {enc : TypeId × Value → H} {P : Program} {W : World} {base : Nat} {spare : Nat → Bool} {held : Bool} {t e : TypeId} {k : IntKind} {v : Value} {a : Option Addr} {len cap : Nat} {d : DataW H} {ps : List MemPlace} {ts : List TypeId} {ds : List (DataW H)} {j : Nat}
    (hv : v = .slice a len cap) (hsz : (DataW.weightsEach P ts ds).all (· ≤ reachBytes) = true) (ht : ts[j]? = some t) (hd : ds[j]? = some d) (hu : P.underlying t = some (.slice e)) (he : P.underlying e = some (.int k)) (hc : P.cellsOf e = 1) {B : Nat} (hB : P.bytesOf e = B)
    (h : DataW.Trod enc P W base spare held t v d ps) : ∃ xs : List Int, ReadsV 1 W v xs.length (xs.map (Value.int k)) ∧ (∀ x ∈ xs, (Lit.int k x).wf = true) ∧ xs.length * B ≤ 140737488351232 := by
  subst hv
  obtain ⟨fuel, hf⟩ := h
  rcases open_ints hu he hc hf with ⟨hcs, _⟩ | ⟨x, l, c, zs, hcs, _, hl, hm, hz, hx, hcell, hwz⟩
  · simp [Value.cells] at hcs
    obtain ⟨rfl, rfl, rfl⟩ := hcs
    exact ⟨[], ⟨rfl, none, 0, rfl, Nat.le_refl _, Nat.zero_le _, fun j u hu => by simp at hu⟩, fun x hx => by simp at hx, by simp⟩
  · simp [Value.cells] at hcs
    obtain ⟨rfl, rfl, rfl⟩ := hcs
    obtain ⟨hx, _⟩ := Prod.mk.inj hx
    subst hx
    have z := sized_slice hsz ht hd hu
    rw [hB] at z
    have hl2 : len ≤ zs.length := by
      rw [hz]
      split
      · exact hl
      · exact Nat.le_refl _
    have h1 : (lits (H := H) k (zs.take len)).length + (lits (H := H) k (zs.drop len)).length = zs.length := by
      simp [lits]
      omega
    rw [h1] at z
    have htl : (zs.take len).length = len := by rw [List.length_take]; omega
    refine ⟨zs.take len, ⟨by simp, some x, cap, by rw [htl], by rw [htl]; exact hl, hm, fun j u hu => ⟨x, rfl, ?_⟩⟩, fun y hy => hwz y (List.mem_of_mem_take hy), by rw [htl]; exact Nat.le_trans (Nat.mul_le_mul_right _ hl2) z⟩
    rw [List.getElem?_map, List.getElem?_take] at hu
    split at hu
    · rename_i hj
      have hjz : j < zs.length := by omega
      rw [hcell j hjz]
      rw [List.getElem?_eq_getElem hjz] at hu
      simp only [Option.map_some, Option.some.injEq] at hu
      rw [← hu]
      simp [List.getD, List.getElem?_eq_getElem hjz]
    · simp at hu

/-- The same, wherever it stands: no bound on its length. -/
theorem open_nums0 {H : Type} {enc : TypeId × Value → H} {P : Program} {W : World} {base : Nat} {spare : Nat → Bool} {held : Bool} {t e : TypeId} {k : IntKind} {v : Value} {fuel : Nat} {x : DataW H × List MemPlace}
    (hu : P.underlying t = some (.slice e)) (he : P.underlying e = some (.int k)) (hc : P.cellsOf e = 1)
    (hf : DataW.trod enc P W base spare held fuel t [v] = some x) : ∃ xs : List Int, ReadsV 1 W v xs.length (xs.map (Value.int k)) ∧ ∀ x ∈ xs, (Lit.int k x).wf = true := by
  rcases open_ints hu he hc hf with ⟨hcs, _⟩ | ⟨x, l, c, zs, hcs, _, hl, hm, hz, hx, hcell, hwz⟩
  · simp only [List.cons.injEq, and_true] at hcs
    subst hcs
    exact ⟨[], ⟨rfl, none, 0, rfl, Nat.le_refl _, Nat.zero_le _, fun j u hu => by simp at hu⟩, fun x hx => by simp at hx⟩
  · simp only [List.cons.injEq, and_true] at hcs
    subst hcs
    have hl2 : l ≤ zs.length := by
      rw [hz]
      split
      · exact hl
      · exact Nat.le_refl _
    have htl : (zs.take l).length = l := by rw [List.length_take]; omega
    refine ⟨zs.take l, ⟨by simp, some x, c, by rw [htl], by rw [htl]; exact hl, hm, fun j u hu => ⟨x, rfl, ?_⟩⟩, fun y hy => hwz y (List.mem_of_mem_take hy)⟩
    rw [List.getElem?_map, List.getElem?_take] at hu
    split at hu
    · rename_i hj
      have hjz : j < zs.length := by omega
      rw [hcell j hjz]
      rw [List.getElem?_eq_getElem hjz] at hu
      simp only [Option.map_some, Option.some.injEq] at hu
      rw [← hu]
      simp [List.getD, List.getElem?_eq_getElem hjz]
    · simp at hu

/-- A slice of elements of so many cells: K says what an element's cells read as. -/
def SliceOf {α : Type} (K : World → List Value → α → Prop) (size : Nat) (W : World) (v : Value) (xs : List α) : Prop :=
  ∃ A c, v = .slice A xs.length c ∧ xs.length ≤ c ∧ c ≤ maxLen ∧ ∀ k x, xs[k]? = some x → ∃ g off cs, A = some ⟨g, off, none⟩ ∧ cs.length = size ∧ (∀ i u, cs[i]? = some u → W.cell? ⟨g, off + k * size + i, none⟩ = some u) ∧ K W cs x

theorem add_at (g off n : Nat) : (⟨g, off, none⟩ : Addr).add n = ⟨g, off + n, none⟩ := by unfold Addr.add; split <;> simp_all
theorem cell_spot {W : World} {a : Addr} {v : Value} (h : W.cell? a = some v) : a.spot = none := by
  unfold World.cell? at h
  split at h
  · split at h
    · cases h
    · rename_i hs
      simpa using hs
  · cases h
theorem add_spot {a : Addr} {n : Nat} (h : (a.add n).spot = none) (h0 : n = 0 ∨ a.spot = none) : a.spot = none := by
  rcases h0 with h0 | h0
  · subst h0; exact h
  · exact h0

theorem SliceOf.below {α : Type} {K : World → List Value → α → Prop} {size : Nat} {w w' : World} {v : Value} {xs : List α} (hK : ∀ cs x, K w cs x → K w' cs x) (h : SliceOf K size w v xs) (hb : Below w.heap.size w w') : SliceOf K size w' v xs := by
  obtain ⟨A, c, h1, h2, h3, h4⟩ := h
  refine ⟨A, c, h1, h2, h3, fun k x hx => ?_⟩
  obtain ⟨g, off, cs, h5, h6, h7, h8⟩ := h4 k x hx
  exact ⟨g, off, cs, h5, h6, fun i u hu => (hb.cell (World.block_lt_of_cell? w _ (h7 i u hu))).trans (h7 i u hu), hK _ _ h8⟩

theorem open_list {H : Type} {enc : TypeId × Value → H} {P : Program} {W : World} {base : Nat} {spare : Nat → Bool} {held : Bool} {t e : TypeId} {size : Nat} {α : Type} [Inhabited α] {K : World → List Value → α → Prop}
    (ht : P.underlying t = some (.slice e)) (hC : P.cellsOf e = size) (hs : 0 < size) {fuel : Nat} (hK : ∀ n, n < fuel → ∀ cs y, cs.length = size → DataW.trod enc P W base spare held n e cs = some y → ∃ a, K W cs a) {v : Value} {x : DataW H × List MemPlace}
    (h : DataW.trod enc P W base spare held fuel t [v] = some x) : ∃ xs, SliceOf K size W v xs := by
  rcases DataW.trod_slice ht h with ⟨hcs, _⟩ | ⟨a, len, cap, elems, rest, n, hn, hcs, _, _, hl, hm, hlen, hel, _, _⟩
  · simp only [List.cons.injEq, and_true] at hcs
    subst hcs
    exact ⟨[], none, 0, rfl, Nat.le_refl _, Nat.zero_le _, fun k x hx => by simp at hx⟩
  · simp only [List.cons.injEq, and_true] at hcs
    subst hcs
    have hat : ∀ k, k < len → ∃ cs y, W.cells? base (a.add (k * size)) size = some cs ∧ DataW.trod enc P W base spare held n e cs = some y := by
      intro k hk
      have h1 := hel k hk
      rw [hC] at h1
      have h2 : elems[k]? = some (elems[k]'(by omega)) := List.getElem?_eq_getElem (by omega)
      rw [h2, Option.bind_eq_some_iff] at h1
      obtain ⟨cs, h3, h4⟩ := h1
      exact ⟨cs, _, h3, h4⟩
    have hget : ∀ k, ∃ z : α, k < len → ∃ cs, W.cells? base (a.add (k * size)) size = some cs ∧ K W cs z := by
      intro k
      by_cases hk : k < len
      · obtain ⟨cs, y, h1, h2⟩ := hat k hk
        obtain ⟨z, hz⟩ := hK n (by omega) cs y (World.cells?_some h1).2.1 h2
        exact ⟨z, fun _ => ⟨cs, h1, hz⟩⟩
      · exact ⟨default, fun h => absurd h hk⟩
    have hsp : 0 < len → a.spot = none := by
      intro h0
      obtain ⟨cs, y, h1, h2⟩ := hat 0 h0
      obtain ⟨_, h3, h4⟩ := World.cells?_some h1
      have h5 := h4 0 hs
      rw [Nat.zero_mul, List.getElem?_eq_getElem (by omega)] at h5
      exact cell_spot h5
    refine ⟨(List.range len).map fun k => (hget k).choose, some a, cap, by simp, by simpa using hl, hm, fun k z hz => ?_⟩
    have hk : k < len := by
      have := (List.getElem?_eq_some_iff.1 hz).1
      simpa using this
    have hz2 : (hget k).choose = z := by
      rw [List.getElem?_map, List.getElem?_range hk] at hz
      simpa using hz
    obtain ⟨cs, h1, h2⟩ := (hget k).choose_spec hk
    rw [hz2] at h2
    obtain ⟨_, h3, h4⟩ := World.cells?_some h1
    have hae : a = ⟨a.block, a.off, none⟩ := by
      have := hsp (by omega)
      cases a
      simp_all
    rw [hae] at h4 ⊢
    refine ⟨a.block, a.off, cs, rfl, h3, fun i u hu => ?_, h2⟩
    have h5 := h4 i (by have := (List.getElem?_eq_some_iff.1 hu).1; omega)
    rw [add_at, add_at] at h5
    rw [h5, hu]

/-- A field of a struct that came in. -/
theorem open_field {H : Type} {enc : TypeId × Value → H} {P : Program} {W : World} {base : Nat} {spare : Nat → Bool} {held : Bool} {fs : Array Field} {m : Nat} {cs : List Value} {xs : List (DataW H × List MemPlace)}
    (hx : ∀ (i : Nat) (f : Field), fs[i]? = some f → DataW.trod enc P W base spare held m f.type ((cs.drop f.offset).take (P.cellsOf f.type)) = xs[i]?) (hl : xs.length = fs.size)
    (i : Nat) (f : Field) (hf : fs[i]? = some f) {T n : Nat} (hT : f.type = T) (hn : P.cellsOf T = n) : ∃ y, DataW.trod enc P W base spare held m T ((cs.drop f.offset).take n) = some y := by
  subst hT hn
  have hi : i < xs.length := by rw [hl]; exact (Array.getElem?_eq_some_iff.1 hf).1
  exact ⟨xs[i], (hx i f hf).trans (List.getElem?_eq_getElem hi)⟩
end Go.Proofs.Ytbjddomocggjmaa.Open
