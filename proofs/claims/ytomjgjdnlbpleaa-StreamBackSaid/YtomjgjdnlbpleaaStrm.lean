/- The walks of layer 1's writer. -/
import Derived.Test.YtomjgjdnlbpleaaProg
import Derived.Test.YtomjgjdnlbpleaaSep
import Derived.Test.YtomjgjdnlbpleaaBits
import Derived.KernelRfl
namespace Go.Proofs.Ytomjgjdnlbpleaa.Stream
open Go.RowKit Go.Proofs.Ytomjgjdnlbpleaa.Sep Go.Proofs.Ytomjgjdnlbpleaa.Bits

/-- A row of octets of the call's own; what a slice of octets reads as. -/
abbrev Row8 (v : Value) (xs : List Int) : HP := RowV 5 1 v xs.length (xs.map (Value.int .u8))
abbrev Reads8 (w : World) (v : Value) (xs : List Int) : Prop := ReadsV 1 w v xs.length (xs.map (Value.int .u8))
theorem info8 : (Try.prog.info? 5).map (fun i => (i.zero, i.size, i.bytes)) = some (some (.int .u8 0), 1, 1) := by kernel_rfl
theorem one8 (xs : List Int) : ∀ u ∈ xs.map (Value.int .u8), u.oneCell' = true := by
  intro u hu
  obtain ⟨x, _, rfl⟩ := List.mem_map.1 hu
  rfl
theorem append8 {B : Nat} {w0 w : World} {R : HP} {ops : Array Oper} {rest : List Oper} {o : Oper} {a : Act} {Q : Exit → Act → World → Prop} (hgd : o.guard = none) (s x : Operand)
    (ho : o.op = .call { callee := .builtin .append, args := #[s, x], argTypes := #[25, 25] }) (v src : Value) (xs news : List Int)
    (hs : a.eval s = v) (h : St B w0 w (Row8 v xs • R)) (hx : a.eval x = src) (hr : Reads8 w src news) (h63 : xs.length + news.length ≤ 70368744177664)
    (hK : ∀ v' w', St B w0 w' (Row8 v' (xs ++ news) • R) → wpList Try.prog ops Q rest (a.put o.dst v') w') : wpList Try.prog ops Q (o :: rest) a w := by
  obtain ⟨i0, hi, hz0, hz1, hz2⟩ := info_parts info8
  refine St.wpList_append hgd s x 25 ho i0 (.int .u8 0) 1 Try.underlying25 hi hz0 hz1 hz2 rfl (by decide) hs h hx hr (one8 _) (by simp only [maxLen]; omega) (by omega) fun v' w' h' => hK v' w' ?_
  simpa [Row8] using h'

/-- The same where something is appended: the new value written out. -/
theorem append8s {B : Nat} {w0 w : World} {R : HP} {ops : Array Oper} {rest : List Oper} {o : Oper} {a : Act} {Q : Exit → Act → World → Prop} (hgd : o.guard = none) (s x : Operand)
    (ho : o.op = .call { callee := .builtin .append, args := #[s, x], argTypes := #[25, 25] }) (v src : Value) (xs news : List Int) (N : Nat)
    (hs : a.eval s = v) (h : St B w0 w (Row8 v xs • R)) (hx : a.eval x = src) (hr : Reads8 w src news) (hN : xs.length + news.length = N) (h0 : 0 < N) (h63 : N ≤ 70368744177664)
    (hK : ∀ g cap w', N ≤ cap → cap ≤ maxLen → St B w0 w' (Row8 (.slice (some ⟨g, 0, none⟩) N cap) (xs ++ news) • R) → wpList Try.prog ops Q rest (a.put o.dst (.slice (some ⟨g, 0, none⟩) N cap)) w') : wpList Try.prog ops Q (o :: rest) a w := by
  refine append8 hgd s x ho v src xs news hs h hx hr (by omega) fun v' w' h' => ?_
  obtain ⟨g, cap, rfl, hc, hm, -⟩ := h'.rowFull (by rw [List.length_append]; omega)
  have e : (xs ++ news).length = N := by rw [List.length_append, hN]
  rw [e] at h' hc ⊢
  exact hK g cap w' hc hm h'

/-- The operation writes this slot: an arm's guard. -/
theorem gate {P : Program} {ops : Array Oper} {rest : List Oper} {o : Oper} {a : Act} {Q : Exit → Act → World → Prop} {W : World} {N : Tmp} (_h : o.dst = some N) (k : wpList P ops Q (o :: rest) a W) : wpList P ops Q (o :: rest) a W := k
/-- A text's letters as numbers. -/
def nums (s : ByteArray) : List Int := s.data.toList.map fun b => (b.toNat : Int)
theorem nums_length (s : ByteArray) : (nums s).length = s.size := by unfold nums; rw [List.length_map]; rfl
theorem nums_range (s : ByteArray) : ∀ x ∈ nums s, 0 ≤ x ∧ x < 256 := by
  intro x hx
  obtain ⟨b, _, rfl⟩ := List.mem_map.1 hx
  have := b.toNat_lt
  omega
/-- []byte(s). -/
theorem conv_str8 {B : Nat} {w0 w : World} {R : HP} {ops : Array Oper} {rest : List Oper} {o : Oper} {a : Act} {Q : Exit → Act → World → Prop} (hgd : o.guard = none) (x : Operand)
    (ho : o.op = .convert 9 25 x) (s : ByteArray) (hx : a.eval x = .string s) (h : St B w0 w R) (hs : s.size ≤ 70368744177664)
    (hK : ∀ v' w', St B w0 w' (Row8 v' (nums s) • R) → wpList Try.prog ops Q rest (a.put o.dst v') w') : wpList Try.prog ops Q (o :: rest) a w := by
  refine wpList_plain hgd fun K hKK => ?_
  have hrun := Lib.run_convert_string_bytes (P := Try.prog) w 9 25 5 s Try.underlying9 Try.underlying25 Try.underlying5
  unfold Oper.wp execOp
  simp only [ho, Sem.run_bind, hx, hrun, Result.andThen_ok]
  refine hKK _ _ (hK _ _ ?_)
  have hge := grownCap_ge w s.size 0 5
  have hle : grownCap w s.size 0 5 ≤ maxLen := grownCap_le_maxLen w s.size 0 _ (by simp only [maxLen]; omega)
  have hsz : (Lib.bytesCells w 5 s).size = grownCap w s.size 0 5 := by
    simp only [Lib.bytesCells, Array.size_append, Array.size_map, Array.size_replicate]
    have : s.data.size = s.size := rfl
    omega
  have hst : St B w0 (Lib.bytesWorld w 5 s) (Blk w.heap.size (.cells (Lib.bytesCells w 5 s) 5 ((Lib.bytesCells w 5 s).size, (Lib.bytesCells w 5 s).size + 1)) • R) := by
    have h' : St B w0 w (emp • R) := h.pad.swap
    refine h'.step (by rw [Lib.bytesWorld_size]; omega) ?_ ?_ ?_ fun F hF _ => ⟨fun b hb _ => Lib.bytesWorld_at_old w _ s b hb, fun b => b = w.heap.size, ?_, rfl, Lib.bytesWorld_at_new w _ s⟩
    · simp [Lib.bytesWorld, World.freeze, World.alloc, World.drew, -World.alloc_eq, -World.drew_eq]
    · simp [Lib.bytesWorld, World.freeze, World.alloc, World.drew, -World.alloc_eq, -World.drew_eq]
    · simp [Lib.bytesWorld, World.freeze, World.alloc, World.drew, -World.alloc_eq, -World.drew_eq]
    · rintro b rfl; exact .inr ⟨Nat.le_refl _, by rw [Lib.bytesWorld_size]; omega⟩
  have hfin := hst.blkRow (n := s.size) (cap := grownCap w s.size 0 5) (size := 1) (xs := (nums s).map (Value.int .u8)) hge hle (by rw [hsz]; omega) (.inl (Nat.le_refl _)) ?_
  · rw [← nums_length s] at hfin
    rw [← nums_length s]
    exact hfin
  · have e : (s.data.toList.map fun b => Value.int .u8 (b.toNat : Int)).length = s.size * 1 := by rw [List.length_map, Nat.mul_one]; rfl
    simp only [Lib.bytesCells, Array.toList_append, Array.toList_map]
    rw [← e, List.take_left]
    simp [nums]
/-- string(b). -/
theorem conv_8str {w : World} {ops : Array Oper} {rest : List Oper} {o : Oper} {a : Act} {Q : Exit → Act → World → Prop} (hgd : o.guard = none) (x : Operand)
    (ho : o.op = .convert 25 9 x) (v : Value) (xs : List Int) (hx : a.eval x = v) (hr : Reads8 w v xs)
    (hK : wpList Try.prog ops Q rest (a.put o.dst (.string (strOfNums xs))) w) : wpList Try.prog ops Q (o :: rest) a w := by
  refine wpList_plain hgd fun K hKK => ?_
  have hrun : (convert 25 9 v).run Try.prog w = .ok (.string (strOfNums xs)) w := by
    obtain ⟨hl, A, c, rfl, hc, hcm, hcell⟩ := hr
    cases A with
    | none =>
      have hx : xs = [] := by
        cases xs with
        | nil => rfl
        | cons x xs => obtain ⟨ad, e, _⟩ := hcell 0 _ rfl; cases e
      subst hx
      exact run_convert_bytes_nil (P := Try.prog) w _ _ Try.underlying25 Try.underlying5 _ _ _ Try.underlying9
    | some ad =>
      have hl2 : (loadCells ad xs.length).run Try.prog w = .ok (xs.map (Value.int .u8)).toArray w := by
        have := run_loadCells_list (P := Try.prog) w ad (xs.map (Value.int .u8)) fun j u hu => by
          obtain ⟨ad', e, h'⟩ := hcell j u hu
          cases e
          exact h'
        simpa using this
      rw [run_convert_bytes_string w _ _ _ _ _ _ Try.underlying25 Try.underlying5 Try.underlying9, run_bytesToString w _ _ _ xs hl2, foldl_push_bytes]
      simp [strOfNums, ByteArray.empty, ByteArray.emptyWithCapacity]
      rfl
  unfold Oper.wp execOp
  simp only [ho, Sem.run_bind, hx, hrun, Result.andThen_ok]
  exact hKK _ _ hK

/-- A writer at a block: its two fields, and the row behind them. -/
def Wr (a : Nat) (bits : List Bool) : HP where
  on w F := ∃ v t, (Blk a (.cells #[v, .int .i64 bits.length] t (0, 0)) • Row8 v (pack bits)).on w F
  loc := fun ⟨v, t, h⟩ hk => ⟨v, t, (sep _ _).loc h hk⟩
  up := fun ⟨v, t, h⟩ hk => ⟨v, t, (sep _ _).up h hk⟩

section
variable {B : Nat} {w0 w : World} {R : HP} {a : Nat} {bits : List Bool}
theorem Wr.open_ (h : St B w0 w (Wr a bits • R)) : ∃ v t, St B w0 w (Blk a (.cells #[v, .int .i64 bits.length] t (0, 0)) • Row8 v (pack bits) • R) := by
  obtain ⟨hb, hs, F, hF, F1, F2, h1, h2, hd, ⟨v, t, ha⟩, hr⟩ := h
  exact ⟨v, t, St.assoc ⟨hb, hs, F, hF, F1, F2, h1, h2, hd, ha, hr⟩⟩
theorem Wr.shut {v : Value} {t : TypeId} {xs : List Int} {k : Int} (h : St B w0 w (Blk a (.cells #[v, .int .i64 k] t (0, 0)) • Row8 v xs • R))
    (hk : k = bits.length) (hx : xs = pack bits) : St B w0 w (Wr a bits • R) := by
  subst hk hx
  exact h.assoc'.mapFirst fun w F hh => ⟨v, t, hh⟩
end

variable {B : Nat} {w0 w : World} {R : HP} {a : Nat} {bits : List Bool}

theorem writer_len (h : St B w0 w (Wr a bits • R)) :
    Calls Try.prog 22 #[.pointer (some ⟨a, 0, none⟩)] w fun e w' => e = .returned (.int .i64 bits.length) ∧ w = w' := by
  obtain ⟨v, t, h1⟩ := Wr.open_ h
  have hc0 := h1.cell 0 (v := v) rfl
  have hc1 := h1.cell 1 (v := .int .i64 bits.length) rfl
  clear h h1
  go_enter Try.func22, Try.ntmps22
  go_wp2
  go_ret
  exact ⟨rfl, rfl⟩

end Go.Proofs.Ytomjgjdnlbpleaa.Stream
