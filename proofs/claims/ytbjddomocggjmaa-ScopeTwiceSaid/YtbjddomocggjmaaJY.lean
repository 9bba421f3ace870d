/- The words of the reference of layer 7: walked. -/
import Derived.Test.YtbjddomocggjmaaJD
import Derived.Test.YtbjddomocggjmaaJX
section
namespace Go.Proofs.Ytbjddomocggjmaa.Sc
open Go.RowKit Go.ChangeShapes Go.WideShapes Go.Proofs.Ytbjddomocggjmaa.Sep
open Go.Proofs.YtbjddomocggjmaaW.PrintWords
variable {B : Nat} {w0 w : World} {R : HP}
section
variable {A C D E F G I : HP}
theorem seven (h : St B w0 w (A • (C • (D • (E • (F • (G • (I • R)))))))) : St B w0 w (I • (A • (C • (D • (E • (F • (G • R))))))) := (six h.assoc').two.assoc.three
end
/-- A store of so many cells into a block that is known whole, at some offset. -/
theorem store_off {P : Program} {ty : TypeId} {val : Value} {cs : List Value} (hval : val.cells = cs.toArray) (hi : (P.info? ty).map (·.size) = some cs.length) (h1 : ∀ u ∈ cs, u.oneCell' = true) {e : TypeId} {g : Nat} {cur : Array Value} (o : Nat)
    (h : St B w0 w (Blk g (.cells cur e (0, 0)) • R)) (ho : o + cs.length ≤ cur.size) {new : Array Value} (hnew : (cur.toList.take o ++ cs ++ cur.toList.drop (o + cs.length)).toArray = new) :
    ∃ w', (Instr.storeAt ty (.pointer (some ⟨g, o, none⟩)) val).run P w = .ok () w' ∧ St B w0 w' (Blk g (.cells new e (0, 0)) • R) := by
  subst hnew
  have hst := run_storeCells_off (P := P) g o 0 0 e cs 0 cur w h.block (by omega) (.inr (Nat.le_refl _)) h1
  simp only [Nat.add_zero] at hst
  refine ⟨w.setRow g (cur.toList.take o ++ cs ++ cur.toList.drop (o + cs.length)).toArray, ?_, h.step (by simp [World.setRow]) rfl rfl rfl fun F hF ⟨hf, hb'⟩ => ⟨fun k hk hn => setRow_other w g k _ (fun e => hn (by subst e; exact hf)), F, fun b hb => .inl hb, hf, setRow_heap w g cur _ e _ hb'⟩⟩
  cases hq : P.info? ty with
  | none => simp [hq] at hi
  | some i =>
    have hsz : cs.length = i.size := by simp [hq] at hi; omega
    simp [Instr.storeAt, Instr.sureAddr, storeVar, sizeOf, typeInfo, hq, hval, hst]
    exact hsz
theorem wp_store_off {P : Program} {o : Oper} {a : Act} {K : Act → World → Prop} {Q : Exit → Act → World → Prop} {ty : TypeId} {x y : Operand} (ho : o.op = .store ty x y)
    (cs : List Value) {g off : Nat} (hx : a.eval x = .pointer (some ⟨g, off, none⟩)) {val : Value} (hy : a.eval y = val) (hval : val.cells = cs.toArray) (hi : (P.info? ty).map (·.size) = some cs.length) (h1 : ∀ u ∈ cs, u.oneCell' = true)
    {e : TypeId} {cur : Array Value} (h : St B w0 w (Blk g (.cells cur e (0, 0)) • R)) (hc : off + cs.length ≤ cur.size) {new : Array Value} (hnew : (cur.toList.take off ++ cs ++ cur.toList.drop (off + cs.length)).toArray = new)
    (hK : ∀ w', St B w0 w' (Blk g (.cells new e (0, 0)) • R) → K (a.put o.dst undef) w') : Oper.wp P o a w K Q := by
  obtain ⟨w', hrun, hst⟩ := store_off (P := P) hval hi h1 off h hc hnew
  unfold Oper.wp execOp
  simp only [ho, hx, hy, Sem.run_bind, hrun, Result.andThen_ok, Sem.run_pure]
  exact hK w' hst
theorem step_store_off {P : Program} {ops : Array Oper} {o : Oper} {a : Act} {K : Act → World → Prop} {Q : Exit → Act → World → Prop} {X : Prop} (hw : Region.wanted o (yielded ops a.tmps) = true) {ty : TypeId} {x y : Operand} (ho : o.op = .store ty x y)
    (cs : List Value) {g off : Nat} (hx : a.eval x = .pointer (some ⟨g, off, none⟩)) {val : Value} (hy : a.eval y = val) (hval : val.cells = cs.toArray) (hi : (P.info? ty).map (·.size) = some cs.length) (h1 : ∀ u ∈ cs, u.oneCell' = true)
    {e : TypeId} {cur : Array Value} (h : St B w0 w (Blk g (.cells cur e (0, 0)) • R)) (hc : off + cs.length ≤ cur.size) {new : Array Value} (hnew : (cur.toList.take off ++ cs ++ cur.toList.drop (off + cs.length)).toArray = new)
    (hK : ∀ w', St B w0 w' (Blk g (.cells new e (0, 0)) • R) → K (a.put o.dst undef) w') : if Region.wanted o (yielded ops a.tmps) = true then Oper.wp P o a w K Q else X := by
  rw [if_pos hw]
  exact wp_store_off ho cs hx hy hval hi h1 h hc hnew hK
theorem wpList_store_off {P : Program} {ops : Array Oper} {rest : List Oper} {o : Oper} {a : Act} {Q : Exit → Act → World → Prop} (hg : o.guard = none) {ty : TypeId} {x y : Operand} (ho : o.op = .store ty x y)
    (cs : List Value) {g off : Nat} (hx : a.eval x = .pointer (some ⟨g, off, none⟩)) {val : Value} (hy : a.eval y = val) (hval : val.cells = cs.toArray) (hi : (P.info? ty).map (·.size) = some cs.length) (h1 : ∀ u ∈ cs, u.oneCell' = true)
    {e : TypeId} {cur : Array Value} (h : St B w0 w (Blk g (.cells cur e (0, 0)) • R)) (hc : off + cs.length ≤ cur.size) {new : Array Value} (hnew : (cur.toList.take off ++ cs ++ cur.toList.drop (off + cs.length)).toArray = new)
    (hK : ∀ w', St B w0 w' (Blk g (.cells new e (0, 0)) • R) → wpList P ops Q rest (a.put o.dst undef) w') : wpList P ops Q (o :: rest) a w :=
  wpList_plain hg fun _ hK' => wp_store_off ho cs hx hy hval hi h1 h hc hnew fun w' h' => hK' _ _ (hK w' h')
theorem wpList_store_row {P : Program} {ops : Array Oper} {rest : List Oper} {o : Oper} {a : Act} {Q : Exit → Act → World → Prop} (hg : o.guard = none) {ty : TypeId} {x y : Operand} (ho : o.op = .store ty x y)
    (cs : List Value) {g off : Nat} (hx : a.eval x = .pointer (some ⟨g, off, none⟩)) {val : Value} (hy : a.eval y = val) (hval : val.cells = cs.toArray) (hi : (P.info? ty).map (·.size) = some cs.length) (h1 : ∀ u ∈ cs, u.oneCell' = true)
    {e : TypeId} {size n cap : Nat} {xs : List Value} (h : St B w0 w (RowV e size (.slice (some ⟨g, 0, none⟩) n cap) n xs • R)) (hc : off + cs.length ≤ n * size)
    (hK : ∀ w', St B w0 w' (RowV e size (.slice (some ⟨g, 0, none⟩) n cap) n (xs.take off ++ cs ++ xs.drop (off + cs.length)) • R) → wpList P ops Q rest (a.put o.dst undef) w') : wpList P ops Q (o :: rest) a w := by
  refine wpList_plain hg fun K hK' => ?_
  obtain ⟨w', hrun, hst⟩ := store_row (P := P) hval hi h1 h off hc
  unfold Oper.wp execOp
  simp only [ho, hx, hy, Sem.run_bind, hrun, Result.andThen_ok, Sem.run_pure]
  exact hK' _ _ (hK w' hst)
theorem run_loadVar_cells {P : Program} (w : World) (ad : Addr) (ty : TypeId) (cs : List Value) (d : TypeDesc) (hc : ∀ j v, cs[j]? = some v → w.cell? (ad.add j) = some v)
    (hu : P.underlying ty = some d) (hd : (match d with | .struct _ | .array _ _ => true | _ => false) = true) (hi : (P.info? ty).map (·.size) = some cs.length) :
    (loadVar ty ad).run P w = .ok (.agg cs.toArray) w := by
  have hl : (loadCells ad cs.length).run P w = .ok cs.toArray w := run_loadCells_list (P := P) w ad cs hc
  cases hq : P.info? ty with
  | none => simp [hq] at hi
  | some i =>
    have hs : i.size = cs.length := by simpa [hq] using hi
    have hagg : (isAgg ty).run P w = .ok true w := by
      unfold isAgg
      rw [Sem.run_bind, run_underlying hu w]
      cases d <;> simp_all
    simp [loadVar, Sem.run_bind, hagg, sizeOf, typeInfo, hq, hs, hl]
/-- The load of a struct whose cells are known, wherever it lies. -/
theorem wpList_load_cells {P : Program} {ops : Array Oper} {rest : List Oper} {o : Oper} {a : Act} {w : World} {Q : Exit → Act → World → Prop} (hgd : o.guard = none) (ty : TypeId) (x : Operand) (ho : o.op = .load ty x)
    (ad : Addr) (hx : a.eval x = .pointer (some ad)) (cs : List Value) (hc : ∀ j v, cs[j]? = some v → w.cell? (ad.add j) = some v) (d : TypeDesc)
    (hu : P.underlying ty = some d) (hd : (match d with | .struct _ | .array _ _ => true | _ => false) = true) (hi : (P.info? ty).map (·.size) = some cs.length)
    (h : wpList P ops Q rest (a.put o.dst (.agg cs.toArray)) w) : wpList P ops Q (o :: rest) a w := by
  refine wpList_plain hgd fun _ hK => ?_
  unfold Oper.wp execOp
  simp only [ho, hx, Instr.loadAt, Instr.sureAddr, Sem.run_bind, Sem.run_pure, Result.andThen_ok, run_loadVar_cells w ad ty cs d hc hu hd hi]
  exact hK _ _ h
/-- append of one element that lies in a block of its own. -/
theorem wpList_append_blk {P : Program} {ops : Array Oper} {rest : List Oper} {o : Oper} {a : Act} {Q : Exit → Act → World → Prop} (hw : Region.wanted o (yielded ops a.tmps) = true) (s x : Operand) {t e : TypeId} (ht : P.underlying t = some (.slice e)) {z : Value} {size bytes : Nat}
    (hi : (P.info? e).map (fun i => (i.zero, i.size, i.bytes)) = some (some z, size, bytes)) (hzs : z.cells.size = size) (hsz : 0 < size)
    (ho : o.op = .call { callee := .builtin .append, args := #[s, x], argTypes := #[t, t] }) (v : Value) (n : Nat) (xs : List Value)
    (hs : a.eval s = v) {g c : Nat} {cs : List Value} {e2 : TypeId} {fr : Nat × Nat} (h : St B w0 w (Blk g (.cells cs.toArray e2 fr) • (RowV e size v n xs • R))) (hx : a.eval x = .slice (some ⟨g, 0, none⟩) 1 c) (hl : cs.length = size) (h1 : ∀ u ∈ cs, u.oneCell' = true) (h63 : n + 1 ≤ maxLen) (hb : (n + 1) * bytes ≤ 140737488355328)
    (hK : ∀ v' w', St B w0 w' (RowV e size v' (n + 1) (xs ++ cs) • (Blk g (.cells cs.toArray e2 fr) • R)) → wpList P ops Q rest (a.put o.dst v') w') : wpList P ops Q (o :: rest) a w :=
  wpList_append hw s x ht hi hzs hsz ho v n xs hs h.two hx (by rw [Nat.one_mul]; exact hl) (fun j u hu => ⟨_, rfl, by rw [Sep.add_plain]; exact h.cell j (by simpa using hu)⟩) h1 h63 hb hK
theorem add_add1 (ad : Addr) (m j : Nat) : (ad.add m).add j = ad.add (m + j) := by
  rcases Nat.eq_zero_or_pos j with rfl | hj
  · rw [add_zero1, Nat.add_zero]
  · rw [add_field ad m j hj, add_field1 _ j hj]
/-- The cells of a row's element, in a world above the base. -/
theorem elem_cells {W W' : World} {ad : Addr} {o : Nat} {cs : List Value} (hb : Below W.heap.size W W') (h : ∀ j u, cs[j]? = some u → W.cell? (ad.add (o + j)) = some u) : ∀ j v, cs[j]? = some v → W'.cell? ((ad.add o).add j) = some v := fun j v hv => by
  rw [add_add1]
  exact pw_cell_below hb (h j v hv)
theorem fill_all {cs : List Value} {cur : Array Value} (h : cs.length = cur.size) : (cur.toList.take 0 ++ cs ++ cur.toList.drop (0 + cs.length)).toArray = cs.toArray := by
  rw [List.take_zero, List.nil_append, List.drop_of_length_le (by rw [Array.length_toList]; omega), List.append_nil]
/-- The goal is held back: at a store; at a load of such a type; at a call. -/
theorem held_store {P : Program} {ops : Array Oper} {rest : List Oper} {o : Oper} {a : Act} {Q : Exit → Act → World → Prop} (ty : TypeId) (x y : Operand) (_ : o.op = .store ty x y) (h : Held (wpList P ops Q (o :: rest) a w)) : wpList P ops Q (o :: rest) a w := h.out
theorem held_load {P : Program} {ops : Array Oper} {rest : List Oper} {o : Oper} {a : Act} {Q : Exit → Act → World → Prop} (ty : TypeId) (x : Operand) (_ : o.op = .load ty x) (h : Held (wpList P ops Q (o :: rest) a w)) : wpList P ops Q (o :: rest) a w := h.out
end Go.Proofs.Ytbjddomocggjmaa.Sc
end
section
namespace Go.Proofs.Ytbjddomocggjmaa.Sc
open Go.RowKit Go.ChangeShapes Go.WideShapes Go.Proofs.Ytbjddomocggjmaa.Sep
open Go.Proofs.YtbjddomocggjmaaW.PrintWords
variable {B : Nat} {w0 w : World} {R : HP}
theorem rdigit_calls (c : Int) (w : World) : Calls Try.prog 124 #[.int .u8 c] w fun e w' => e = .returned (.bool (digitI c)) ∧ w = w' := by
  by_cases h1 : 48 ≤ c
  · have d1 : decide (48 ≤ c) = true := decide_eq_true h1
    have e1 : (48 ≤ c) = True := eq_true h1
    by_cases h2 : c ≤ 57
    · have d2 : decide (c ≤ 57) = true := decide_eq_true h2
      have e2 : (c ≤ 57) = True := eq_true h2
      have HD : Hid (digitI c = true) := Lib.hid (decide_eq_true ⟨h1, h2⟩)
      go_enter Try.func124, Try.ntmps124
      go_wp2
      go_ret
      exact ⟨by rw [HD.out]; rfl, rfl⟩
    · have d2 : decide (c ≤ 57) = false := decide_eq_false h2
      have e2 : (c ≤ 57) = False := eq_false h2
      have HD : Hid (digitI c = false) := Lib.hid (decide_eq_false fun h => h2 h.2)
      go_enter Try.func124, Try.ntmps124
      go_wp2
      go_ret
      exact ⟨by rw [HD.out]; rfl, rfl⟩
  · have d1 : decide (48 ≤ c) = false := decide_eq_false h1
    have e1 : (48 ≤ c) = False := eq_false h1
    have HD : Hid (digitI c = false) := Lib.hid (decide_eq_false fun h => h1 h.1)
    go_enter Try.func124, Try.ntmps124
    go_wp2
    go_ret
    exact ⟨by rw [HD.out]; rfl, rfl⟩
theorem rletter_calls (c : Int) (w : World) : Calls Try.prog 123 #[.int .u8 c] w fun e w' => e = .returned (.bool (letterI c)) ∧ w = w' := by
  have HD : Hid (letterI c = (decide (97 ≤ c) && decide (c ≤ 122) || decide (65 ≤ c) && decide (c ≤ 90))) := Lib.hid (by unfold letterI; rw [Bool.eq_iff_iff]; simp)
  cases d1 : decide (97 ≤ c) <;> cases d2 : decide (c ≤ 122) <;> cases d3 : decide (65 ≤ c) <;> cases d4 : decide (c ≤ 90)
  all_goals
    rw [d1, d2, d3, d4] at HD
    go_enter Try.func123, Try.ntmps123
    go_wp2
    go_ret
    exact ⟨by rw [HD.out]; rfl, rfl⟩
end Go.Proofs.Ytbjddomocggjmaa.Sc
end
