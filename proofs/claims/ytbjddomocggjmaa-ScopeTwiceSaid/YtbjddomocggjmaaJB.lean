/- Schemas in memory: what a parameter reads as, and how long its lists and texts may be. -/
import Derived.WalkKit
import Derived.Below
import Derived.Deep.Draws
import Derived.Deep.AppendLies
import Derived.Lib.ConvBytes
import Derived.Laws.BytesArg
import Derived.Lib.Hide
import Derived.ProofKit
import Derived.OpenShut
import Derived.ShutString
import Derived.ChangeOld
import Derived.SizedLaws
import Derived.Deep.Slices
import Derived.KernelRfl
import Derived.Test.YtbjddomocggjmaaJA
section
namespace Go.Proofs.Ytbjddomocggjmaa.Sep
open Go.RowKit
/-- An assertion about some blocks of the memory. -/
structure HP where
  on : World → (Nat → Prop) → Prop
  loc : ∀ {w w' : World} {F : Nat → Prop}, on w F → (∀ b, F b → w'.heap[b]? = w.heap[b]?) → on w' F
  up : ∀ {w : World} {F G : Nat → Prop}, on w F → (∀ b, F b → G b) → on w G
def emp : HP := ⟨fun _ _ => True, fun h _ => h, fun h _ => h⟩
def sep (A C : HP) : HP where
  on w F := ∃ F1 F2 : Nat → Prop, (∀ b, F1 b → F b) ∧ (∀ b, F2 b → F b) ∧ (∀ b, F1 b → F2 b → False) ∧ A.on w F1 ∧ C.on w F2
  loc := by
    rintro w w' F ⟨F1, F2, h1, h2, hd, ha, hc⟩ h
    exact ⟨F1, F2, h1, h2, hd, A.loc ha fun b hb => h b (h1 b hb), C.loc hc fun b hb => h b (h2 b hb)⟩
  up := by
    rintro w F G ⟨F1, F2, h1, h2, hd, ha, hc⟩ h
    exact ⟨F1, F2, fun b hb => h b (h1 b hb), fun b hb => h b (h2 b hb), hd, ha, hc⟩
instance : HSMul HP HP HP := ⟨sep⟩
/-- What the memory is: below B as it was; from B on it holds A. -/
structure St (B : Nat) (w0 w : World) (A : HP) : Prop where
  below : Below B w0 w
  size : B ≤ w.heap.size
  own : ∃ F : Nat → Prop, (∀ b, F b → B ≤ b ∧ b < w.heap.size) ∧ A.on w F
section
variable {B : Nat} {w0 w : World} {A C D R : HP}
theorem St.start (w : World) : St w.heap.size w w emp := ⟨Below.refl _ _, Nat.le_refl _, fun _ => False, fun _ h => h.elim, trivial⟩
theorem St.imp (h : St B w0 w A) (hi : ∀ w F, A.on w F → C.on w F) : St B w0 w C := by
  obtain ⟨h1, h2, F, h3, h4⟩ := h
  exact ⟨h1, h2, F, h3, hi _ _ h4⟩
theorem sep_swap {w : World} {F : Nat → Prop} (h : (A • C).on w F) : (C • A).on w F := by
  obtain ⟨F1, F2, h1, h2, hd, ha, hc⟩ := h
  exact ⟨F2, F1, h2, h1, fun b x y => hd b y x, hc, ha⟩
theorem sep_left {w : World} {F : Nat → Prop} (h : (A • C • R).on w F) : (C • A • R).on w F := by
  obtain ⟨F1, F2, h1, h2, hd, ha, G1, G2, g1, g2, gd, gc, gr⟩ := h
  refine ⟨G1, fun b => F1 b ∨ G2 b, fun b hb => h2 b (g1 b hb), fun b hb => hb.elim (h1 b) fun hb => h2 b (g2 b hb), fun b x y => ?_, gc, F1, G2, fun b hb => .inl hb, fun b hb => .inr hb, fun b x y => hd b x (g2 b y), ha, gr⟩
  rcases y with y | y
  · exact hd b y (g1 b x)
  · exact gd b x y
/-- The second piece comes first. -/
theorem St.two (h : St B w0 w (A • C • R)) : St B w0 w (C • A • R) := h.imp fun _ _ => sep_left
/-- The third piece comes first. -/
theorem St.three (h : St B w0 w (A • C • D • R)) : St B w0 w (D • A • C • R) := by
  refine h.imp fun w F hh => ?_
  obtain ⟨F1, F2, h1, h2, hd, ha, hr⟩ := hh
  exact sep_left ⟨F1, F2, h1, h2, hd, ha, sep_left hr⟩
/-- The first piece goes behind the second, the third. -/
theorem St.back3 (h : St B w0 w (D • A • C • R)) : St B w0 w (A • C • D • R) := by
  refine h.imp fun w F hh => ?_
  obtain ⟨F1, F2, h1, h2, hd, ha, hr⟩ := sep_left hh
  exact ⟨F1, F2, h1, h2, hd, ha, sep_left hr⟩
theorem St.swap (h : St B w0 w (A • C)) : St B w0 w (C • A) := h.imp fun _ _ => sep_swap
/-- The first piece is let go. -/
theorem St.drop (h : St B w0 w (A • R)) : St B w0 w R := by
  refine h.imp fun w F hh => ?_
  obtain ⟨F1, F2, h1, h2, hd, ha, hr⟩ := hh
  exact R.up hr h2
theorem St.drop2 (h : St B w0 w (A • C • R)) : St B w0 w (A • R) := h.two.drop
theorem St.pad (h : St B w0 w A) : St B w0 w (A • emp) := by
  refine h.imp fun w F hh => ⟨F, fun _ => False, fun _ h => h, fun _ h => h.elim, fun _ _ h => h.elim, hh, trivial⟩
/-- The first piece is said otherwise. -/
theorem St.mapFirst (h : St B w0 w (A • R)) (hi : ∀ w F, A.on w F → C.on w F) : St B w0 w (C • R) := by
  refine h.imp fun w F hh => ?_
  obtain ⟨F1, F2, h1, h2, hd, ha, hr⟩ := hh
  exact ⟨F1, F2, h1, h2, hd, hi _ _ ha, hr⟩
theorem sep_assoc {w : World} {F : Nat → Prop} (h : ((A • C) • R).on w F) : (A • C • R).on w F := by
  obtain ⟨F1, F2, h1, h2, hd, ⟨G1, G2, g1, g2, gd, ga, gc⟩, hr⟩ := h
  exact ⟨G1, fun b => G2 b ∨ F2 b, fun b hb => h1 b (g1 b hb), fun b hb => hb.elim (fun hb => h1 b (g2 b hb)) (h2 b), fun b x y => y.elim (gd b x) (hd b (g1 b x)), ga,
    G2, F2, fun b hb => .inl hb, fun b hb => .inr hb, fun b x y => hd b (g2 b x) y, gc, hr⟩
theorem sep_assoc' {w : World} {F : Nat → Prop} (h : (A • C • R).on w F) : ((A • C) • R).on w F := by
  obtain ⟨F1, F2, h1, h2, hd, ha, G1, G2, g1, g2, gd, gc, gr⟩ := h
  exact ⟨fun b => F1 b ∨ G1 b, G2, fun b hb => hb.elim (h1 b) fun hb => h2 b (g1 b hb), fun b hb => h2 b (g2 b hb), fun b x y => x.elim (fun x => hd b x (g2 b y)) (fun x => gd b x y),
    ⟨F1, G1, fun b hb => .inl hb, fun b hb => .inr hb, fun b x y => hd b x (g1 b y), ha, gc⟩, gr⟩
theorem St.assoc (h : St B w0 w ((A • C) • R)) : St B w0 w (A • C • R) := h.imp fun _ _ => sep_assoc
theorem St.assoc' (h : St B w0 w (A • C • R)) : St B w0 w ((A • C) • R) := h.imp fun _ _ => sep_assoc'
/-- A world with the same memory and the same surroundings. -/
theorem St.same {w' : World} (h : St B w0 w A) (h1 : w'.heap = w.heap) (h2 : w'.os = w.os) (h3 : w'.tape = w.tape) (h4 : w'.output = w.output) : St B w0 w' A := by
  obtain ⟨hb, hs, F, hF, hA⟩ := h
  exact ⟨⟨h2.trans hb.os, h3.trans hb.tape, h4.trans hb.output, by rw [h1]; exact hb.size, fun k hk => by rw [h1]; exact hb.block k hk⟩, by rw [h1]; exact hs, F, by rw [h1]; exact hF, A.loc hA fun b _ => by rw [h1]⟩
theorem St.drew (h : St B w0 w A) : St B w0 w.drew A := h.same rfl rfl rfl rfl
theorem St.drewN (h : St B w0 w A) (n : Nat) : St B w0 (w.drewN n) A := h.same rfl rfl rfl rfl
end
def Blk (b : Nat) (o : Obj) : HP where
  on w F := F b ∧ w.heap[b]? = some o
  loc := fun ⟨h1, h2⟩ h => ⟨h1, (h _ h1).trans h2⟩
  up := fun ⟨h1, h2⟩ h => ⟨h _ h1, h2⟩
section
variable {B : Nat} {w0 w : World} {A C D R : HP}
/-- What changes but the first piece's blocks, and what comes new. -/
theorem St.step {w' : World} (h : St B w0 w (A • R))
    (hs : w.heap.size ≤ w'.heap.size) (ho : w'.os = w.os) (ht : w'.tape = w.tape) (hp : w'.output = w.output)
    (hstep : ∀ F : Nat → Prop, (∀ b, F b → B ≤ b ∧ b < w.heap.size) → A.on w F →
      (∀ b, b < w.heap.size → ¬ F b → w'.heap[b]? = w.heap[b]?) ∧ ∃ G : Nat → Prop, (∀ b, G b → F b ∨ (w.heap.size ≤ b ∧ b < w'.heap.size)) ∧ C.on w' G) : St B w0 w' (C • R) := by
  obtain ⟨hb, hsz, F, hF, F1, F2, h1, h2, hd, ha, hr⟩ := h
  obtain ⟨hk, G, hG, hc⟩ := hstep F1 (fun b hb => hF b (h1 b hb)) ha
  refine ⟨hb.trans ⟨ho, ht, hp, hs, fun k hk' => hk k (by omega) fun hf => by have := (hF k (h1 k hf)).1; omega⟩, Nat.le_trans hsz hs, fun b => G b ∨ F2 b, ?_, G, F2, fun b hb => .inl hb, fun b hb => .inr hb, ?_, hc, ?_⟩
  · rintro b (hg | hf)
    · rcases hG b hg with hf | ⟨h3, h4⟩
      · have := hF b (h1 b hf); omega
      · omega
    · have := hF b (h2 b hf); omega
  · intro b hg hf
    rcases hG b hg with hf1 | ⟨h3, h4⟩
    · exact hd b hf1 hf
    · have := hF b (h2 b hf); omega
  · exact R.loc hr fun b hf => hk b (hF b (h2 b hf)).2 fun h => hd b h hf
theorem St.alloc (h : St B w0 w R) (o : Obj) : St B w0 (w.alloc o) (Blk w.heap.size o • R) := by
  have h' : St B w0 w (emp • R) := h.pad.swap
  refine h'.step (by simp) rfl rfl rfl fun F hF _ => ⟨fun b hb _ => Below.heap_alloc _ _ _ hb, fun b => b = w.heap.size, ?_, rfl, ?_⟩
  · rintro b rfl; exact .inr ⟨Nat.le_refl _, by simp⟩
  · exact heap_alloc_new w o
theorem St.block {b : Nat} {o : Obj} (h : St B w0 w (Blk b o • R)) : w.heap[b]? = some o := by
  obtain ⟨_, _, F, hF, F1, F2, h1, h2, hd, ⟨_, ha⟩, hr⟩ := h
  exact ha
theorem heap_setCell_self {w : World} {b i : Nat} {cs : Array Value} {e : TypeId} {fr : Nat × Nat} (h : w.heap[b]? = some (.cells cs e fr)) (v : Value) :
    (w.setCell ⟨b, i, none⟩ v).heap[b]? = some (.cells (cs.setIfInBounds i v) e fr) := by
  have hlt := lt_of_block h
  have h' : w.heap[b] = .cells cs e fr := by simpa [Array.getElem?_eq_getElem hlt] using h
  show (w.heap.modify b _)[b]? = _
  rw [Array.getElem?_eq_getElem (by simpa using hlt), Array.getElem_modify_self, h']
  rfl
theorem St.set {b : Nat} {cs : Array Value} {e : TypeId} {fr : Nat × Nat} (h : St B w0 w (Blk b (.cells cs e fr) • R)) (i : Nat) (v : Value) :
    St B w0 (w.setCell ⟨b, i, none⟩ v) (Blk b (.cells (cs.setIfInBounds i v) e fr) • R) := by
  refine h.step (by simp [World.setCell]) rfl rfl rfl fun F hF ⟨hf, hb⟩ => ⟨fun k hk hn => Below.heap_setCell _ _ _ _ fun e => hn (by subst e; exact hf), F, fun b hb => .inl hb, hf, heap_setCell_self hb v⟩
theorem St.cell {b : Nat} {cs : Array Value} {e : TypeId} {fr : Nat × Nat} (h : St B w0 w (Blk b (.cells cs e fr) • R)) (i : Nat) {v : Value} (hv : cs[i]? = some v) : w.cell? ⟨b, i, none⟩ = some v := by
  simp [World.cell?, h.block, hv]
theorem St.free {b : Nat} {cs : Array Value} {e : TypeId} {lo hi : Nat} (h : St B w0 w (Blk b (.cells cs e (lo, hi)) • R)) (i : Nat) (hi' : i < lo ∨ hi ≤ lo) : w.frozen? ⟨b, i, none⟩ = false := by
  simp [World.frozen?, h.block]; omega
end
def RowOn (e : TypeId) (size : Nat) (v : Value) (n : Nat) (xs : List Value) (w : World) (F : Nat → Prop) : Prop :=
  xs.length = n * size ∧
  ((v = .slice none 0 0 ∧ n = 0) ∨
   ∃ g cap cur lo hi, v = .slice (some ⟨g, 0, none⟩) n cap ∧ F g ∧ w.heap[g]? = some (.cells cur e (lo, hi)) ∧ (cur.size ≤ lo ∨ hi ≤ lo) ∧ n ≤ cap ∧ cap ≤ maxLen ∧ cur.size = cap * size ∧ cur.toList.take (n * size) = xs)
def RowV (e : TypeId) (size : Nat) (v : Value) (n : Nat) (xs : List Value) : HP where
  on w F := RowOn e size v n xs w F
  loc := by
    rintro w w' F ⟨h1, h2⟩ h
    refine ⟨h1, ?_⟩
    rcases h2 with h2 | ⟨g, cap, cur, lo, hi, h3, h4, h5, h6⟩
    · exact .inl h2
    · exact .inr ⟨g, cap, cur, lo, hi, h3, h4, (h g h4).trans h5, h6⟩
  up := by
    rintro w F G ⟨h1, h2⟩ h
    refine ⟨h1, ?_⟩
    rcases h2 with h2 | ⟨g, cap, cur, lo, hi, h3, h4, h6⟩
    · exact .inl h2
    · exact .inr ⟨g, cap, cur, lo, hi, h3, h _ h4, h6⟩
/-- What a slice reads as, wherever it lies: its cells. -/
def ReadsV (size : Nat) (w : World) (v : Value) (n : Nat) (xs : List Value) : Prop :=
  xs.length = n * size ∧ ∃ A c, v = .slice A n c ∧ n ≤ c ∧ c ≤ maxLen ∧ ∀ j u, xs[j]? = some u → ∃ ad, A = some ad ∧ w.cell? (ad.add j) = some u
theorem add_plain (g j : Nat) : (⟨g, 0, none⟩ : Addr).add j = ⟨g, j, none⟩ := by unfold Addr.add; split <;> simp_all
section
variable {B : Nat} {w0 w : World} {A C D R : HP} {e : TypeId} {size n : Nat} {v : Value} {xs : List Value}
theorem RowOn.reads {F : Nat → Prop} (h : RowOn e size v n xs w F) : ReadsV size w v n xs := by
  obtain ⟨h1, h2⟩ := h
  refine ⟨h1, ?_⟩
  rcases h2 with ⟨rfl, rfl⟩ | ⟨g, cap, cur, lo, hi, rfl, h4, h5, h6, h7, h8, h9, h10⟩
  · refine ⟨none, 0, rfl, Nat.le_refl _, Nat.zero_le _, fun j u hu => ?_⟩
    have : xs = [] := List.eq_nil_of_length_eq_zero (by omega)
    subst this
    simp at hu
  · refine ⟨_, cap, rfl, h7, h8, fun j u hu => ⟨_, rfl, ?_⟩⟩
    rw [add_plain, cell_of_row w g j cur e (lo, hi) h5]
    rw [← h10, List.getElem?_take] at hu
    split at hu
    · simpa using hu
    · cases hu
theorem St.reads (h : St B w0 w (RowV e size v n xs • R)) : ReadsV size w v n xs := by
  obtain ⟨_, _, F, hF, F1, F2, h1, h2, hd, ha, hr⟩ := h
  exact RowOn.reads ha
theorem St.nil (h : St B w0 w R) (e : TypeId) (size : Nat) : St B w0 w (RowV e size (.slice none 0 0) 0 [] • R) := by
  have h' : St B w0 w (emp • R) := h.pad.swap
  exact h'.mapFirst fun w F _ => ⟨by simp, .inl ⟨rfl, rfl⟩⟩
theorem St.rowLen (h : St B w0 w (RowV e size v n xs • R)) : xs.length = n * size := by
  obtain ⟨_, _, F, hF, F1, F2, h1, h2, hd, ha, hr⟩ := h
  exact ha.1
/-- A new block as a row. -/
theorem St.blkRow {g cap : Nat} {cur : Array Value} {lo hi : Nat} (h : St B w0 w (Blk g (.cells cur e (lo, hi)) • R)) (hn : n ≤ cap) (hc : cap ≤ maxLen) (hs : cur.size = cap * size)
    (hf : cur.size ≤ lo ∨ hi ≤ lo) (hx : cur.toList.take (n * size) = xs) : St B w0 w (RowV e size (.slice (some ⟨g, 0, none⟩) n cap) n xs • R) := by
  refine h.mapFirst fun w F ⟨hg, hb⟩ => ⟨?_, .inr ⟨g, cap, cur, lo, hi, rfl, hg, hb, hf, hn, hc, hs, hx⟩⟩
  rw [← hx, List.length_take]
  have : n * size ≤ cap * size := Nat.mul_le_mul_right _ hn
  simp only [Array.length_toList]
  omega
/-- A row's form: nil, or the head of a block that is known whole. -/
theorem St.rowForm (h : St B w0 w (RowV e size v n xs • R)) :
    (v = .slice none 0 0 ∧ n = 0 ∧ xs = []) ∨
    ∃ g cap cur lo hi, v = .slice (some ⟨g, 0, none⟩) n cap ∧ (cur.size ≤ lo ∨ hi ≤ lo) ∧ n ≤ cap ∧ cap ≤ maxLen ∧ cur.size = cap * size ∧ cur.toList.take (n * size) = xs ∧ St B w0 w (Blk g (.cells cur e (lo, hi)) • R) := by
  obtain ⟨hb, hs, F, hF, F1, F2, h1, h2, hd, ⟨hl, ha⟩, hr⟩ := h
  rcases ha with ⟨rfl, rfl⟩ | ⟨g, cap, cur, lo, hi, rfl, h4, h5, h6, h7, h8, h9, h10⟩
  · exact .inl ⟨rfl, rfl, List.eq_nil_of_length_eq_zero (by omega)⟩
  · exact .inr ⟨g, cap, cur, lo, hi, rfl, h6, h7, h8, h9, h10, hb, hs, F, hF, F1, F2, h1, h2, hd, ⟨h4, h5⟩, hr⟩
end
section
variable {P : Program}
theorem run_storeCells_off (g o lo hi : Nat) (t : TypeId) : ∀ (vs : List Value) (i : Nat) (cur : Array Value) (w : World), w.heap[g]? = some (.cells cur t (lo, hi)) → o + i + vs.length ≤ cur.size → (cur.size ≤ lo ∨ hi ≤ lo) → (∀ v ∈ vs, v.oneCell' = true) →
    (storeCells ⟨g, o, none⟩ vs i).run P w = .ok () (w.setRow g (cur.toList.take (o + i) ++ vs ++ cur.toList.drop (o + i + vs.length)).toArray)
  | [], i, cur, w, hg, _, _, _ => by
    simp only [storeCells, List.append_nil, List.length_nil, Nat.add_zero, List.take_append_drop, Array.toArray_toList]
    rw [setRow_self w g cur t (lo, hi) hg]
    rfl
  | v :: rest, i, cur, w, hg, hl, hfr, h1 => by
    have hi' : o + i < cur.size := by simp at hl; omega
    have hadd : (⟨g, o, none⟩ : Addr).add i = ⟨g, o + i, none⟩ := by unfold Addr.add; split <;> simp_all
    have hcell : w.cell? ⟨g, o + i, none⟩ = some cur[o + i] := by simp [World.cell?, hg, hi']
    have hfro : w.frozen? ⟨g, o + i, none⟩ = false := by simp [World.frozen?, hg]; omega
    have hst : (store ((⟨g, o, none⟩ : Addr).add i) v).run P w = .ok () (w.setRow g (cur.setIfInBounds (o + i) v)) := by
      rw [hadd, run_store P w _ v _ (h1 v (by simp)), hcell]
      simp [hfro, setCell_eq_setRow w g (o + i) cur t (lo, hi) v hg]
    have ih := run_storeCells_off g o lo hi t rest (i + 1) (cur.setIfInBounds (o + i) v) (w.setRow g (cur.setIfInBounds (o + i) v)) (setRow_heap w g cur _ t _ hg) (by simp at hl ⊢; omega) (by simpa using hfr) (fun x hx => h1 x (by simp [hx]))
    simp only [storeCells, Sem.run_bind, hst, Result.andThen_ok, ih, setRow_setRow]
    congr 3
    have e := list_seg_step cur.toList (o + i) v rest (by simp at hl ⊢; omega)
    simpa [Array.toList_setIfInBounds, Nat.add_assoc] using e
theorem run_append_room_off (w : World) (t ty e : TypeId) (i : TypeInfo) (ht : P.underlying t = some (.slice e)) (hi : P.info? e = some i)
    (g sLen sCap lo hi' : Nat) (cur : Array Value) (hg : w.heap[g]? = some (.cells cur e (lo, hi'))) (hfr : cur.size ≤ lo ∨ hi' ≤ lo)
    (a : Addr) (m c : Nat) (news : List Value) (hl : news.length = m * i.size) (hnews : ∀ j u, news[j]? = some u → w.cell? (a.add j) = some u) (h1 : ∀ u ∈ news, u.oneCell' = true)
    (hroom : sLen + m ≤ sCap) (hfit : sLen * i.size + news.length ≤ cur.size) :
    (Builtin.append_ #[t, t] ty #[.slice (some ⟨g, 0, none⟩) sLen sCap, .slice (some a) m c]).run P w =
      .ok (.slice (some ⟨g, 0, none⟩) (sLen + m) sCap) (w.setRow g (cur.toList.take (sLen * i.size) ++ news ++ cur.toList.drop (sLen * i.size + news.length)).toArray) := by
  have hf := run_firstCells_some (P := P) w i.size m a m c news hl hnews
  have hst := run_storeCells_off (P := P) g (sLen * i.size) lo hi' e news 0 cur w hg (by simpa using hfit) hfr h1
  simp only [Nat.add_zero] at hst
  simp [Builtin.append_, run_underlying ht, sizeOf, typeInfo, hi, Builtin.lenOf, hroom, hf, Addr.add_lit, hst]
theorem run_append_empty (w : World) (t ty e : TypeId) (i : TypeInfo) (ht : P.underlying t = some (.slice e)) (hi : P.info? e = some i) (base : Option Addr) (hb : ∀ a, base = some a → ∃ g, a = ⟨g, 0, none⟩) (sLen sCap : Nat) (hc : sLen ≤ sCap) (A : Option Addr) (c : Nat) :
    (Builtin.append_ #[t, t] ty #[.slice base sLen sCap, .slice A 0 c]).run P w = .ok (.slice base sLen sCap) w := by
  cases base with
  | none => cases A <;> simp [Builtin.append_, run_underlying ht, sizeOf, typeInfo, hi, Builtin.lenOf, hc, Builtin.firstCells, loadCells, loadCellsFrom]
  | some a => cases A <;> simp [Builtin.append_, run_underlying ht, sizeOf, typeInfo, hi, Builtin.lenOf, hc, Builtin.firstCells, loadCells, loadCellsFrom, storeCells]
variable {B : Nat} {w0 w : World} {R : HP} {e : TypeId} {size n : Nat} {v : Value} {xs : List Value}
end
end Go.Proofs.Ytbjddomocggjmaa.Sep
end
section
namespace Go.Proofs.Ytbjddomocggjmaa.Open
open Go.ChangeShapes Go.WideShapes Go.ChangeAt Go.RowKit Go.Proofs.Ytbjddomocggjmaa.Sep
theorem wf_i64 {n : Int} (h : (Lit.int .i64 n).wf = true) : -9223372036854775808 ≤ n ∧ n ≤ 9223372036854775807 := by
  simp [Lit.wf, IntKind.min, IntKind.max, IntKind.bits, IntKind.signed] at h
  omega
/-- A slice of elements of so many cells: K says what an element's cells read as. -/
def SliceOf {α : Type} (K : World → List Value → α → Prop) (size : Nat) (W : World) (v : Value) (xs : List α) : Prop :=
  ∃ A c, v = .slice A xs.length c ∧ xs.length ≤ c ∧ c ≤ maxLen ∧ ∀ k x, xs[k]? = some x → ∃ g off cs, A = some ⟨g, off, none⟩ ∧ cs.length = size ∧ (∀ i u, cs[i]? = some u → W.cell? ⟨g, off + k * size + i, none⟩ = some u) ∧ K W cs x
theorem add_at (g off n : Nat) : (⟨g, off, none⟩ : Addr).add n = ⟨g, off + n, none⟩ := by unfold Addr.add; split <;> simp_all
theorem cell_spot {W : World} {a : Addr} {v : Value} (h : W.cell? a = some v) : a.spot = none := by
  unfold World.cell? at h
  split at h
  · split at h
    · cases h
    · rename_i hs
      simpa using hs
  · cases h
end Go.Proofs.Ytbjddomocggjmaa.Open
end
section
namespace Go.Proofs.Ytbjddomocggjmaa.Sc
open Go.RowKit Go.ChangeShapes Go.WideShapes Go.Proofs.Ytbjddomocggjmaa.Open Go.Proofs.Ytbjddomocggjmaa.Sep Go.Proofs.YtbjddomocggjmaaW.PrintWords
def M : Nat := 140737488355328
theorem reach_M : reachBytes + 4096 = M := rfl
def i64 (x : Int) : Prop := -9223372036854775808 ≤ x ∧ x ≤ 9223372036854775807
section
variable {H : Type} {P : Program}
theorem weights_all_mem {e : TypeId} {l : List (DataW H)} {d : DataW H} (h : d ∈ l) : ∀ n ∈ d.weights P e, n ∈ DataW.weightsAll P e l := by
  induction l with
  | nil => cases h
  | cons x l ih =>
    intro n hn
    simp only [DataW.weightsAll, List.mem_append]
    rcases List.mem_cons.1 h with rfl | h
    · exact .inl hn
    · exact .inr (ih h n hn)
theorem all_sub {l m : List Nat} (h : m.all (· ≤ reachBytes) = true) (hs : ∀ n ∈ l, n ∈ m) : l.all (· ≤ reachBytes) = true :=
  List.all_eq_true.2 fun n hn => List.all_eq_true.1 h n (hs n hn)
/-- The weights of a struct's field are among the struct's. -/
theorem weights_field {t : TypeId} {fs : Array Field} {xs : List (DataW H × List MemPlace)} (ht : P.underlying t = some (.struct fs)) (hw : ((DataW.agg (xs.map (·.1))).weights P t).all (· ≤ reachBytes) = true) (i : Nat) (f : Field) (hf : fs[i]? = some f) (y : DataW H × List MemPlace) (hy : xs[i]? = some y) {T : TypeId} (hT : f.type = T) :
    (y.1.weights P T).all (· ≤ reachBytes) = true := by
  subst hT
  simp only [DataW.weights, ht] at hw
  refine all_sub hw fun n hn => DataW.weights_mem_each (j := i) (t := f.type) (d := y.1) ?_ ?_ n hn
  · rw [List.getElem?_map, Array.getElem?_toList, hf]; rfl
  · rw [List.getElem?_map, hy]; rfl
variable {enc : TypeId × Value → H} {W : World} {base : Nat} {spare : Nat → Bool} {held : Bool}
/-- A field of a struct that came in, with its weights. -/
theorem open_fieldW {t : TypeId} {fs : Array Field} {m : Nat} {cs : List Value} {xs : List (DataW H × List MemPlace)} (ht : P.underlying t = some (.struct fs))
    (hx : ∀ (i : Nat) (f : Field), fs[i]? = some f → DataW.trod enc P W base spare held m f.type ((cs.drop f.offset).take (P.cellsOf f.type)) = xs[i]?) (hl : xs.length = fs.size)
    (hw : ((DataW.agg (xs.map (·.1))).weights P t).all (· ≤ reachBytes) = true)
    (i : Nat) (f : Field) (hf : fs[i]? = some f) {T n : Nat} (hT : f.type = T) (hn : P.cellsOf T = n) : ∃ y, DataW.trod enc P W base spare held m T ((cs.drop f.offset).take n) = some y ∧ (y.1.weights P T).all (· ≤ reachBytes) = true := by
  have hi : i < xs.length := by rw [hl]; exact (Array.getElem?_eq_some_iff.1 hf).1
  have hw2 := weights_field ht hw i f hf xs[i] (List.getElem?_eq_getElem hi) hT
  subst hT hn
  exact ⟨xs[i], (hx i f hf).trans (List.getElem?_eq_getElem hi), hw2⟩
theorem open_listW {t e : TypeId} {size Bt : Nat} {α : Type} [Inhabited α] {K : World → List Value → α → Prop}
    (ht : P.underlying t = some (.slice e)) (hC : P.cellsOf e = size) (hs : 0 < size) (hB : P.bytesOf e = Bt) {fuel : Nat} (hK : ∀ n, n < fuel → ∀ cs y, cs.length = size → DataW.trod enc P W base spare held n e cs = some y → (y.1.weights P e).all (· ≤ reachBytes) = true → ∃ a, K W cs a) {v : Value} {x : DataW H × List MemPlace}
    (h : DataW.trod enc P W base spare held fuel t [v] = some x) (hw : (x.1.weights P t).all (· ≤ reachBytes) = true) : ∃ xs, SliceOf K size W v xs ∧ xs.length * Bt ≤ M := by
  rcases DataW.trod_slice ht h with ⟨hcs, _⟩ | ⟨a, len, cap, elems, rest, n, hn, hcs, hxe, _, hl, hm, hlen, hel, _, _⟩
  · simp only [List.cons.injEq, and_true] at hcs
    subst hcs
    exact ⟨[], ⟨none, 0, rfl, Nat.le_refl _, Nat.zero_le _, fun k x hx => by simp at hx⟩, by simp⟩
  · simp only [List.cons.injEq, and_true] at hcs
    subst hcs hxe
    simp only [DataW.weights, ht, List.all_cons, Bool.and_eq_true, decide_eq_true_eq, List.length_map, hB] at hw
    obtain ⟨hw1, hw2⟩ := hw
    have hat : ∀ k, k < len → ∃ cs y, W.cells? base (a.add (k * size)) size = some cs ∧ DataW.trod enc P W base spare held n e cs = some y ∧ (y.1.weights P e).all (· ≤ reachBytes) = true := by
      intro k hk
      have h1 := hel k hk
      rw [hC] at h1
      have hk2 : k < elems.length := by omega
      have h2 : elems[k]? = some (elems[k]'hk2) := List.getElem?_eq_getElem hk2
      rw [h2, Option.bind_eq_some_iff] at h1
      obtain ⟨cs, h3, h4⟩ := h1
      refine ⟨cs, _, h3, h4, all_sub hw2 fun q hq => List.mem_append_left _ (weights_all_mem (List.mem_map.2 ⟨elems[k], List.getElem_mem hk2, rfl⟩) q hq)⟩
    have hget : ∀ k, ∃ z : α, k < len → ∃ cs, W.cells? base (a.add (k * size)) size = some cs ∧ K W cs z := by
      intro k
      by_cases hk : k < len
      · obtain ⟨cs, y, h1, h2, h3⟩ := hat k hk
        obtain ⟨z, hz⟩ := hK n (by omega) cs y (World.cells?_some h1).2.1 h2 h3
        exact ⟨z, fun _ => ⟨cs, h1, hz⟩⟩
      · exact ⟨default, fun h => absurd h hk⟩
    have hsp : 0 < len → a.spot = none := by
      intro h0
      obtain ⟨cs, y, h1, h2, _⟩ := hat 0 h0
      obtain ⟨_, h3, h4⟩ := World.cells?_some h1
      have h5 := h4 0 hs
      rw [Nat.zero_mul, List.getElem?_eq_getElem (by omega)] at h5
      exact cell_spot h5
    refine ⟨(List.range len).map fun k => (hget k).choose, ⟨some a, cap, by simp, by simpa using hl, hm, fun k z hz => ?_⟩, ?_⟩
    · have hk : k < len := by
        have := (List.getElem?_eq_some_iff.1 hz).1
        simpa using this
      have hz2 : (hget k).choose = z := by
        rw [List.getElem?_map, List.getElem?_range hk] at hz
        simpa using hz
      obtain ⟨cs, h1, h2⟩ := (hget k).choose_spec hk
      rw [hz2] at h2
      obtain ⟨_, h3, h4⟩ := World.cells?_some h1
      have hae : a = ⟨a.block, a.off, none⟩ := by
        have := hsp (by omega)
        cases a
        simp_all
      rw [hae] at h4 ⊢
      refine ⟨a.block, a.off, cs, rfl, h3, fun i u hu => ?_, h2⟩
      have h5 := h4 i (by have := (List.getElem?_eq_some_iff.1 hu).1; omega)
      rw [Open.add_at, Open.add_at] at h5
      rw [h5, hu]
    · simp only [List.length_map, List.length_range]
      have : len * Bt ≤ (elems.length + rest.length) * Bt := Nat.mul_le_mul_right _ (by omega)
      have := reach_M
      omega
theorem open_strW {t : TypeId} {cs : List Value} {fuel : Nat} {x : DataW H × List MemPlace} (ht : P.underlying t = some .string) (h : DataW.trod enc P W base spare held fuel t cs = some x) (hw : (x.1.weights P t).all (· ≤ reachBytes) = true) : ∃ s : ByteArray, cs = [.string s] ∧ s.size ≤ M := by
  obtain ⟨s, h1, h2, _⟩ := DataW.trod_string ht h
  subst h2
  simp only [DataW.weights, List.all_cons, List.all_nil, Bool.and_true] at hw
  have hw2 := of_decide_eq_true hw
  have h3 : s.size ≤ reachBytes := by simpa using hw2
  have h4 := reach_M
  exact ⟨s, h1, by omega⟩
end
/-- A slice as the printed kinds read it. -/
theorem c_of_slice {α : Type} {d : Kd α} {Ok : α → Prop} {size : Nat} {W : World} {A : Option Addr} {n cap : Nat} {l : List α} (hsz : d.sz = size) (h : SliceOf (fun W cs x => d.K W x cs ∧ Ok x) size W (.slice A n cap) l) : n = l.length ∧ l.length ≤ cap ∧ cap ≤ maxLen ∧ d.C W A l.length l ∧ ∀ x ∈ l, Ok x := by
  obtain ⟨A', c', h1, h2, h3, h4⟩ := h
  simp only [Value.slice.injEq] at h1
  obtain ⟨rfl, rfl, rfl⟩ := h1
  refine ⟨rfl, h2, h3, ⟨rfl, by simp only [maxLen] at h3; omega, fun hn => ?_⟩, fun x hx => ?_⟩
  · obtain ⟨g, off, _, rfl, _⟩ := h4 0 _ (List.getElem?_eq_getElem hn)
    refine ⟨_, rfl, fun j p hp => ?_⟩
    obtain ⟨g', off', cs, e, h5, h6, h7, _⟩ := h4 j p hp
    simp only [Option.some.injEq, Addr.mk.injEq, and_true] at e
    obtain ⟨rfl, rfl⟩ := e
    refine ⟨cs, h5.trans hsz.symm, h7, fun i u hu => ?_⟩
    rw [Open.add_at, hsz]
    have := h6 i u hu
    rwa [Nat.add_assoc] at this
  · obtain ⟨k, hk⟩ := List.getElem?_of_mem hx
    obtain ⟨_, _, _, _, _, _, _, h8⟩ := h4 k x hk
    exact h8
theorem len2 {α : Type} {l : List α} (h : l.length = 2) : ∃ a b, l = [a, b] := by
  match l, h with
  | [a, b], _ => exact ⟨a, b, rfl⟩
theorem len5 {α : Type} {l : List α} (h : l.length = 5) : ∃ a b c d e, l = [a, b, c, d, e] := by
  match l, h with
  | [a, b, c, d, e], _ => exact ⟨a, b, c, d, e, rfl⟩
theorem len4 {α : Type} {l : List α} (h : l.length = 4) : ∃ a b c d, l = [a, b, c, d] := by
  match l, h with
  | [a, b, c, d], _ => exact ⟨a, b, c, d, rfl⟩
abbrev Con := PScopeTwice.S50
abbrev Val := PScopeTwice.S147
abbrev Im := PScopeTwice.S69
abbrev kCon : Kd Con := PScopeTwice.k50
abbrev kVal : Kd Val := PScopeTwice.k147
abbrev kIm : Kd Im := PScopeTwice.k69
abbrev kStrs : Kd (List ByteArray) := Kd.slice 9 Kd.string
/-- A part, an alternative: of a type that is read so. -/
structure Pt (τ : Type) where
  n : ByteArray
  t : τ
  o : Bool
  d : List Val
structure Ty where
  k : Int
  n : ByteArray
  c : Con
  e : Bool
  fr : ByteArray
  ns : List ByteArray
  mo : List ByteArray
  ps : List (Pt Ty)
  ad : List (Pt Ty)
  el : List Ty
structure Df where
  n : ByteArray
  t : Ty
structure Md where
  n : ByteArray
  au : Bool
  im : List Im
  df : List Df
structure En where
  m : ByteArray
  n : ByteArray
  au : Bool
  t : Ty
def zCon : Con := ⟨0, 0, 0, false, false, []⟩
def zTy : Ty := ⟨0, ⟨#[]⟩, zCon, false, ⟨#[]⟩, [], [], [], [], []⟩
def zPt : Pt Ty := ⟨⟨#[]⟩, zTy, false, []⟩
def zDf : Df := ⟨⟨#[]⟩, zTy⟩
def zMd : Md := ⟨⟨#[]⟩, false, [], []⟩
def zEn : En := ⟨⟨#[]⟩, ⟨#[]⟩, false, zTy⟩
def zVal : Val := ⟨0, 0, ⟨#[]⟩, [], []⟩
def zIm : Im := ⟨[], ⟨#[]⟩⟩
instance : Inhabited Con := ⟨zCon⟩
instance : Inhabited Val := ⟨zVal⟩
instance : Inhabited Im := ⟨zIm⟩
instance : Inhabited Ty := ⟨zTy⟩
instance : Inhabited (Pt Ty) := ⟨zPt⟩
instance : Inhabited Df := ⟨zDf⟩
instance : Inhabited Md := ⟨zMd⟩
instance : Inhabited En := ⟨zEn⟩
instance : Inhabited ByteArray := ⟨⟨#[]⟩⟩
def FPt (d : Kd Ty) : Kd (Pt Ty) := Kd.iso (Kd.pair Kd.string (Kd.pair d (Kd.pair Kd.bool (Kd.slice 147 kVal)))) (fun x : Pt Ty => (x.n, x.t, x.o, x.d))
def FTy (d : Kd Ty) : Kd Ty := Kd.iso (Kd.pair (Kd.int .i64) (Kd.pair Kd.string (Kd.pair kCon (Kd.pair Kd.bool (Kd.pair Kd.string (Kd.pair kStrs (Kd.pair kStrs (Kd.pair (Kd.slice 96 (FPt d)) (Kd.pair (Kd.slice 96 (FPt d)) (Kd.slice 55 d)))))))))) (fun x : Ty => (x.k, x.n, x.c, x.e, x.fr, x.ns, x.mo, x.ps, x.ad, x.el))
theorem monoPt : Kd.Mono FPt := Kd.mono_iso _ (Kd.mono_pair (Kd.mono_const _) (Kd.mono_pair Kd.mono_id (Kd.mono_pair (Kd.mono_const _) (Kd.mono_const _))))
theorem monoTy : Kd.Mono FTy := Kd.mono_iso _ (Kd.mono_pair (Kd.mono_const _) (Kd.mono_pair (Kd.mono_const _) (Kd.mono_pair (Kd.mono_const _) (Kd.mono_pair (Kd.mono_const _) (Kd.mono_pair (Kd.mono_const _) (Kd.mono_pair (Kd.mono_const _) (Kd.mono_pair (Kd.mono_const _) (Kd.mono_pair (Kd.mono_slice 96 monoPt) (Kd.mono_pair (Kd.mono_slice 96 monoPt) (Kd.mono_slice 55 Kd.mono_id))))))))))
def eTy : List Nat := [9, 50, 55, 96, 147]
theorem subPt : Kd.Sub FPt eTy := Kd.sub_iso _ (Kd.sub_pair (Kd.sub_const _ (by decide)) (Kd.sub_pair Kd.sub_id (Kd.sub_pair (Kd.sub_const _ (by decide)) (Kd.sub_const _ (by decide)))))
theorem subTy : Kd.Sub FTy eTy := Kd.sub_iso _ (Kd.sub_pair (Kd.sub_const _ (by decide)) (Kd.sub_pair (Kd.sub_const _ (by decide)) (Kd.sub_pair (Kd.sub_const _ (by decide)) (Kd.sub_pair (Kd.sub_const _ (by decide)) (Kd.sub_pair (Kd.sub_const _ (by decide)) (Kd.sub_pair (Kd.sub_const _ (by decide)) (Kd.sub_pair (Kd.sub_const _ (by decide)) (Kd.sub_pair (Kd.sub_slice 96 (by decide) subPt) (Kd.sub_pair (Kd.sub_slice 96 (by decide) subPt) (Kd.sub_slice 55 (by decide) Kd.sub_id))))))))))
theorem szTy : ∀ n, (Kd.upto FTy 15 eTy n).sz = 15 := Kd.upto_sz (fun _ => rfl)
def kTy : Kd Ty := Kd.fix FTy 15 eTy szTy (Kd.upto_E subTy)
def kPt : Kd (Pt Ty) := FPt kTy
def kDf : Kd Df := Kd.iso (Kd.pair Kd.string kTy) (fun x : Df => (x.n, x.t))
def kMd : Kd Md := Kd.iso (Kd.pair Kd.string (Kd.pair Kd.bool (Kd.pair (Kd.slice 69 kIm) (Kd.slice 59 kDf)))) (fun x : Md => (x.n, x.au, x.im, x.df))
def kEn : Kd En := Kd.iso (Kd.pair Kd.string (Kd.pair Kd.string (Kd.pair Kd.bool kTy))) (fun x : En => (x.m, x.n, x.au, x.t))
end Go.Proofs.Ytbjddomocggjmaa.Sc
end
