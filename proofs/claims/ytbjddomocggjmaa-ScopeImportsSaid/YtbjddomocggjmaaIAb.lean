/- The words of the reference of layer 7: walked. -/
import Derived.Test.YtbjddomocggjmaaIB
import Derived.Test.YtbjddomocggjmaaIE
import Derived.Test.YtbjddomocggjmaaIU
import Derived.Test.YtbjddomocggjmaaIZ
import Derived.Test.YtbjddomocggjmaaIAa
section
namespace Go.Proofs.Ytbjddomocggjmaa.Sc
open Go.RowKit Go.ChangeShapes Go.WideShapes Go.Proofs.Ytbjddomocggjmaa.Sep
open Go.Proofs.YtbjddomocggjmaaW.PrintWords
variable {B : Nat} {w0 w : World} {R : HP}
section
variable {A C D E F G I : HP}
theorem seven (h : St B w0 w (A • (C • (D • (E • (F • (G • (I • R)))))))) : St B w0 w (I • (A • (C • (D • (E • (F • (G • R))))))) := (six h.assoc').two.assoc.three
end
/-- A store of so many cells into a block that is known whole, at some offset. -/
theorem store_off {P : Program} {ty : TypeId} {val : Value} {cs : List Value} (hval : val.cells = cs.toArray) (hi : (P.info? ty).map (·.size) = some cs.length) (h1 : ∀ u ∈ cs, u.oneCell' = true) {e : TypeId} {g : Nat} {cur : Array Value} (o : Nat)
    (h : St B w0 w (Blk g (.cells cur e (0, 0)) • R)) (ho : o + cs.length ≤ cur.size) {new : Array Value} (hnew : (cur.toList.take o ++ cs ++ cur.toList.drop (o + cs.length)).toArray = new) :
    ∃ w', (Instr.storeAt ty (.pointer (some ⟨g, o, none⟩)) val).run P w = .ok () w' ∧ St B w0 w' (Blk g (.cells new e (0, 0)) • R) := by
  subst hnew
  have hst := run_storeCells_off (P := P) g o 0 0 e cs 0 cur w h.block (by omega) (.inr (Nat.le_refl _)) h1
  simp only [Nat.add_zero] at hst
  refine ⟨w.setRow g (cur.toList.take o ++ cs ++ cur.toList.drop (o + cs.length)).toArray, ?_, h.step (by simp [World.setRow]) rfl rfl rfl fun F hF ⟨hf, hb'⟩ => ⟨fun k hk hn => setRow_other w g k _ (fun e => hn (by subst e; exact hf)), F, fun b hb => .inl hb, hf, setRow_heap w g cur _ e _ hb'⟩⟩
  cases hq : P.info? ty with
  | none => simp [hq] at hi
  | some i =>
    have hsz : cs.length = i.size := by simp [hq] at hi; omega
    simp [Instr.storeAt, Instr.sureAddr, storeVar, sizeOf, typeInfo, hq, hval, hst]
    exact hsz
theorem wp_store_off {P : Program} {o : Oper} {a : Act} {K : Act → World → Prop} {Q : Exit → Act → World → Prop} {ty : TypeId} {x y : Operand} (ho : o.op = .store ty x y)
    (cs : List Value) {g off : Nat} (hx : a.eval x = .pointer (some ⟨g, off, none⟩)) {val : Value} (hy : a.eval y = val) (hval : val.cells = cs.toArray) (hi : (P.info? ty).map (·.size) = some cs.length) (h1 : ∀ u ∈ cs, u.oneCell' = true)
    {e : TypeId} {cur : Array Value} (h : St B w0 w (Blk g (.cells cur e (0, 0)) • R)) (hc : off + cs.length ≤ cur.size) {new : Array Value} (hnew : (cur.toList.take off ++ cs ++ cur.toList.drop (off + cs.length)).toArray = new)
    (hK : ∀ w', St B w0 w' (Blk g (.cells new e (0, 0)) • R) → K (a.put o.dst undef) w') : Oper.wp P o a w K Q := by
  obtain ⟨w', hrun, hst⟩ := store_off (P := P) hval hi h1 off h hc hnew
  unfold Oper.wp execOp
  simp only [ho, hx, hy, Sem.run_bind, hrun, Result.andThen_ok, Sem.run_pure]
  exact hK w' hst
theorem step_store_off {P : Program} {ops : Array Oper} {o : Oper} {a : Act} {K : Act → World → Prop} {Q : Exit → Act → World → Prop} {X : Prop} (hw : Region.wanted o (yielded ops a.tmps) = true) {ty : TypeId} {x y : Operand} (ho : o.op = .store ty x y)
    (cs : List Value) {g off : Nat} (hx : a.eval x = .pointer (some ⟨g, off, none⟩)) {val : Value} (hy : a.eval y = val) (hval : val.cells = cs.toArray) (hi : (P.info? ty).map (·.size) = some cs.length) (h1 : ∀ u ∈ cs, u.oneCell' = true)
    {e : TypeId} {cur : Array Value} (h : St B w0 w (Blk g (.cells cur e (0, 0)) • R)) (hc : off + cs.length ≤ cur.size) {new : Array Value} (hnew : (cur.toList.take off ++ cs ++ cur.toList.drop (off + cs.length)).toArray = new)
    (hK : ∀ w', St B w0 w' (Blk g (.cells new e (0, 0)) • R) → K (a.put o.dst undef) w') : if Region.wanted o (yielded ops a.tmps) = true then Oper.wp P o a w K Q else X := by
  rw [if_pos hw]
  exact wp_store_off ho cs hx hy hval hi h1 h hc hnew hK
theorem wpList_store_off {P : Program} {ops : Array Oper} {rest : List Oper} {o : Oper} {a : Act} {Q : Exit → Act → World → Prop} (hg : o.guard = none) {ty : TypeId} {x y : Operand} (ho : o.op = .store ty x y)
    (cs : List Value) {g off : Nat} (hx : a.eval x = .pointer (some ⟨g, off, none⟩)) {val : Value} (hy : a.eval y = val) (hval : val.cells = cs.toArray) (hi : (P.info? ty).map (·.size) = some cs.length) (h1 : ∀ u ∈ cs, u.oneCell' = true)
    {e : TypeId} {cur : Array Value} (h : St B w0 w (Blk g (.cells cur e (0, 0)) • R)) (hc : off + cs.length ≤ cur.size) {new : Array Value} (hnew : (cur.toList.take off ++ cs ++ cur.toList.drop (off + cs.length)).toArray = new)
    (hK : ∀ w', St B w0 w' (Blk g (.cells new e (0, 0)) • R) → wpList P ops Q rest (a.put o.dst undef) w') : wpList P ops Q (o :: rest) a w :=
  wpList_plain hg fun _ hK' => wp_store_off ho cs hx hy hval hi h1 h hc hnew fun w' h' => hK' _ _ (hK w' h')
theorem wpList_store_row {P : Program} {ops : Array Oper} {rest : List Oper} {o : Oper} {a : Act} {Q : Exit → Act → World → Prop} (hg : o.guard = none) {ty : TypeId} {x y : Operand} (ho : o.op = .store ty x y)
    (cs : List Value) {g off : Nat} (hx : a.eval x = .pointer (some ⟨g, off, none⟩)) {val : Value} (hy : a.eval y = val) (hval : val.cells = cs.toArray) (hi : (P.info? ty).map (·.size) = some cs.length) (h1 : ∀ u ∈ cs, u.oneCell' = true)
    {e : TypeId} {size n cap : Nat} {xs : List Value} (h : St B w0 w (RowV e size (.slice (some ⟨g, 0, none⟩) n cap) n xs • R)) (hc : off + cs.length ≤ n * size)
    (hK : ∀ w', St B w0 w' (RowV e size (.slice (some ⟨g, 0, none⟩) n cap) n (xs.take off ++ cs ++ xs.drop (off + cs.length)) • R) → wpList P ops Q rest (a.put o.dst undef) w') : wpList P ops Q (o :: rest) a w := by
  refine wpList_plain hg fun K hK' => ?_
  obtain ⟨w', hrun, hst⟩ := store_row (P := P) hval hi h1 h off hc
  unfold Oper.wp execOp
  simp only [ho, hx, hy, Sem.run_bind, hrun, Result.andThen_ok, Sem.run_pure]
  exact hK' _ _ (hK w' hst)
theorem run_loadVar_cells {P : Program} (w : World) (ad : Addr) (ty : TypeId) (cs : List Value) (d : TypeDesc) (hc : ∀ j v, cs[j]? = some v → w.cell? (ad.add j) = some v)
    (hu : P.underlying ty = some d) (hd : (match d with | .struct _ | .array _ _ => true | _ => false) = true) (hi : (P.info? ty).map (·.size) = some cs.length) :
    (loadVar ty ad).run P w = .ok (.agg cs.toArray) w := by
  have hl : (loadCells ad cs.length).run P w = .ok cs.toArray w := run_loadCells_list (P := P) w ad cs hc
  cases hq : P.info? ty with
  | none => simp [hq] at hi
  | some i =>
    have hs : i.size = cs.length := by simpa [hq] using hi
    have hagg : (isAgg ty).run P w = .ok true w := by
      unfold isAgg
      rw [Sem.run_bind, run_underlying hu w]
      cases d <;> simp_all
    simp [loadVar, Sem.run_bind, hagg, sizeOf, typeInfo, hq, hs, hl]
/-- The load of a struct whose cells are known, wherever it lies. -/
theorem wpList_load_cells {P : Program} {ops : Array Oper} {rest : List Oper} {o : Oper} {a : Act} {w : World} {Q : Exit → Act → World → Prop} (hgd : o.guard = none) (ty : TypeId) (x : Operand) (ho : o.op = .load ty x)
    (ad : Addr) (hx : a.eval x = .pointer (some ad)) (cs : List Value) (hc : ∀ j v, cs[j]? = some v → w.cell? (ad.add j) = some v) (d : TypeDesc)
    (hu : P.underlying ty = some d) (hd : (match d with | .struct _ | .array _ _ => true | _ => false) = true) (hi : (P.info? ty).map (·.size) = some cs.length)
    (h : wpList P ops Q rest (a.put o.dst (.agg cs.toArray)) w) : wpList P ops Q (o :: rest) a w := by
  refine wpList_plain hgd fun _ hK => ?_
  unfold Oper.wp execOp
  simp only [ho, hx, Instr.loadAt, Instr.sureAddr, Sem.run_bind, Sem.run_pure, Result.andThen_ok, run_loadVar_cells w ad ty cs d hc hu hd hi]
  exact hK _ _ h
/-- append of one element that lies in a block of its own. -/
theorem wpList_append_blk {P : Program} {ops : Array Oper} {rest : List Oper} {o : Oper} {a : Act} {Q : Exit → Act → World → Prop} (hw : Region.wanted o (yielded ops a.tmps) = true) (s x : Operand) {t e : TypeId} (ht : P.underlying t = some (.slice e)) {z : Value} {size bytes : Nat}
    (hi : (P.info? e).map (fun i => (i.zero, i.size, i.bytes)) = some (some z, size, bytes)) (hzs : z.cells.size = size) (hsz : 0 < size)
    (ho : o.op = .call { callee := .builtin .append, args := #[s, x], argTypes := #[t, t] }) (v : Value) (n : Nat) (xs : List Value)
    (hs : a.eval s = v) {g c : Nat} {cs : List Value} {e2 : TypeId} {fr : Nat × Nat} (h : St B w0 w (Blk g (.cells cs.toArray e2 fr) • (RowV e size v n xs • R))) (hx : a.eval x = .slice (some ⟨g, 0, none⟩) 1 c) (hl : cs.length = size) (h1 : ∀ u ∈ cs, u.oneCell' = true) (h63 : n + 1 ≤ maxLen) (hb : (n + 1) * bytes ≤ 140737488355328)
    (hK : ∀ v' w', St B w0 w' (RowV e size v' (n + 1) (xs ++ cs) • (Blk g (.cells cs.toArray e2 fr) • R)) → wpList P ops Q rest (a.put o.dst v') w') : wpList P ops Q (o :: rest) a w :=
  wpList_append hw s x ht hi hzs hsz ho v n xs hs h.two hx (by rw [Nat.one_mul]; exact hl) (fun j u hu => ⟨_, rfl, by rw [Sep.add_plain]; exact h.cell j (by simpa using hu)⟩) h1 h63 hb hK
theorem add_add1 (ad : Addr) (m j : Nat) : (ad.add m).add j = ad.add (m + j) := by
  rcases Nat.eq_zero_or_pos j with rfl | hj
  · rw [add_zero1, Nat.add_zero]
  · rw [add_field ad m j hj, add_field1 _ j hj]
/-- The cells of a row's element, in a world above the base. -/
theorem elem_cells {W W' : World} {ad : Addr} {o : Nat} {cs : List Value} (hb : Below W.heap.size W W') (h : ∀ j u, cs[j]? = some u → W.cell? (ad.add (o + j)) = some u) : ∀ j v, cs[j]? = some v → W'.cell? ((ad.add o).add j) = some v := fun j v hv => by
  rw [add_add1]
  exact pw_cell_below hb (h j v hv)
theorem fill_all {cs : List Value} {cur : Array Value} (h : cs.length = cur.size) : (cur.toList.take 0 ++ cs ++ cur.toList.drop (0 + cs.length)).toArray = cs.toArray := by
  rw [List.take_zero, List.nil_append, List.drop_of_length_le (by rw [Array.length_toList]; omega), List.append_nil]
/-- The goal is held back: at a store; at a load of such a type; at a call. -/
theorem held_store {P : Program} {ops : Array Oper} {rest : List Oper} {o : Oper} {a : Act} {Q : Exit → Act → World → Prop} (ty : TypeId) (x y : Operand) (_ : o.op = .store ty x y) (h : Held (wpList P ops Q (o :: rest) a w)) : wpList P ops Q (o :: rest) a w := h.out
theorem held_load {P : Program} {ops : Array Oper} {rest : List Oper} {o : Oper} {a : Act} {Q : Exit → Act → World → Prop} (ty : TypeId) (x : Operand) (_ : o.op = .load ty x) (h : Held (wpList P ops Q (o :: rest) a w)) : wpList P ops Q (o :: rest) a w := h.out
end Go.Proofs.Ytbjddomocggjmaa.Sc
end
section
namespace Go.Proofs.Ytbjddomocggjmaa.Sc
def emptyB (c : Con) : Bool := if c.f0 = 0 then true else if c.f0 = 1 then c.f3 || (decide (c.f1 ≤ 0) && (c.f4 || decide (c.f2 ≥ 0))) else false
/-- Is a type finite, if just those that are known are? Looked at so deep. -/
def finT (K : List UInt8 → Bool) : Nat → Ty → Bool
  | 0, _ => true
  | n + 1, t => if t.k = 11 then K t.n.data.toList else if t.k = 9 then emptyB t.c || (decide (t.el.length = 1) && t.el.all (finT K n))
    else if t.k = 8 then !(t.ps.any fun p => !p.o && decide (p.d.length = 0) && !finT K n p.t)
    else if t.k = 10 then t.ps.any fun p => finT K n p.t else true
theorem finT_mono {K K' : List UInt8 → Bool} (h : ∀ s, K s = true → K' s = true) : ∀ (n : Nat) (t : Ty), finT K n t = true → finT K' n t = true
  | 0, _, h1 => h1
  | n + 1, t, h1 => by
    unfold finT at h1 ⊢
    by_cases k1 : t.k = 11
    · rw [if_pos k1] at h1 ⊢; exact h _ h1
    rw [if_neg k1] at h1 ⊢
    by_cases k2 : t.k = 9
    · rw [if_pos k2] at h1 ⊢
      simp only [Bool.or_eq_true, Bool.and_eq_true, List.all_eq_true] at h1 ⊢
      exact h1.imp id fun ⟨h2, h3⟩ => ⟨h2, fun x hx => finT_mono h n x (h3 x hx)⟩
    rw [if_neg k2] at h1 ⊢
    by_cases k3 : t.k = 8
    · rw [if_pos k3] at h1 ⊢
      simp only [Bool.not_eq_true', List.any_eq_false] at h1 ⊢
      intro p hp h2
      refine h1 p hp ?_
      simp only [Bool.and_eq_true, Bool.not_eq_true'] at h2 ⊢
      refine ⟨h2.1, ?_⟩
      rw [Bool.eq_false_iff]
      intro h3
      rw [finT_mono h n p.t h3] at h2
      exact absurd h2.2 (by simp)
    rw [if_neg k3] at h1 ⊢
    by_cases k4 : t.k = 10
    · rw [if_pos k4] at h1 ⊢
      simp only [List.any_eq_true] at h1 ⊢
      obtain ⟨p, hp, h2⟩ := h1
      exact ⟨p, hp, finT_mono h n p.t h2⟩
    rw [if_neg k4]
def dotB (a b : ByteArray) : ByteArray := a ++ ⟨#[46]⟩ ++ b
def enNm (x : En) : List UInt8 := (dotB x.m x.n).data.toList
structure Fst where
  known : List (List UInt8)
  first : List (List UInt8)
  left : Nat
  grows : Bool
def stepF (s : Fst) (x : En) : Fst :=
  let again := s.first.contains (enNm x)
  let fin := finT s.known.contains 40 x.t
  if (again && fin || s.known.contains (enNm x) && !again) = true then { s with first := s.first ++ [enNm x] }
  else if (!again && fin) = true then ⟨s.known ++ [enNm x], s.first ++ [enNm x], s.left, true⟩
  else { s with first := s.first ++ [enNm x], left := s.left + 1 }
def roundF (K : List (List UInt8)) (l : List En) : Fst := l.foldl stepF ⟨K, [], 0, false⟩
def finLoop : Nat → List (List UInt8) → List En → Bool
  | 0, _, _ => false
  | n + 1, K, l => if (roundF K l).grows = true then finLoop n (roundF K l).known l else decide ((roundF K l).left = 0)
def finB (l : List En) : Bool := finLoop (l.length + 1) [] l
/-- The least set: every set that holds what is finite by it holds all. -/
def FinS (l : List En) : Prop := ∀ K : List UInt8 → Bool, (∀ x ∈ l, finT K 40 x.t = true → K (enNm x) = true) → ∀ x ∈ l, K (enNm x) = true
/-- What a round keeps. -/
structure Rd (l0 : List En) (K0 : List (List UInt8)) (p : List En) (s : Fst) : Prop where
  first : s.first = p.map enNm
  more : ∀ k ∈ K0, k ∈ s.known
  nodup : s.known.Nodup
  sub : ∀ k ∈ s.known, k ∈ K0 ∨ ∃ x ∈ p, enNm x = k
  sound : ∀ K : List UInt8 → Bool, (∀ x ∈ l0, finT K 40 x.t = true → K (enNm x) = true) → (∀ k ∈ K0, K k = true) → ∀ k ∈ s.known, K k = true
  still : s.grows = false → s.known = K0 ∧ (s.left = 0 ↔ ∀ x ∈ p, enNm x ∈ K0) ∧ ∀ x ∈ p, finT K0.contains 40 x.t = true → enNm x ∈ K0
  grew : s.grows = true → K0.length < s.known.length
  len : K0.length ≤ s.known.length
theorem rd_step {l0 : List En} {K0 : List (List UInt8)} {p : List En} {s : Fst} {x : En} (h : Rd l0 K0 p s) (hx : x ∈ l0) (hn : enNm x ∉ p.map enNm) : Rd l0 K0 (p ++ [x]) (stepF s x) := by
  have ha : s.first.contains (enNm x) = false := by
    rw [h.first, Bool.eq_false_iff]
    intro hc
    exact hn (List.contains_iff_mem.1 hc)
  have e1 : s.first ++ [enNm x] = (p ++ [x]).map enNm := by rw [h.first, List.map_append]; rfl
  unfold stepF
  simp only [ha, Bool.false_and, Bool.false_or, Bool.not_false, Bool.and_true, Bool.true_and]
  have hsub : ∀ k ∈ s.known, k ∈ K0 ∨ ∃ y ∈ p ++ [x], enNm y = k := fun k hk => (h.sub k hk).imp id fun ⟨y, hy, e⟩ => ⟨y, List.mem_append_left _ hy, e⟩
  by_cases h1 : s.known.contains (enNm x) = true
  · rw [if_pos h1]
    have hm := List.contains_iff_mem.1 h1
    refine ⟨e1, h.more, h.nodup, hsub, h.sound, fun hg => ?_, h.grew, h.len⟩
    obtain ⟨h2, h3, h4⟩ := h.still hg
    rw [h2] at hm
    refine ⟨h2, h3.trans ⟨fun hh y hy => ?_, fun hh y hy => hh y (List.mem_append_left _ hy)⟩, fun y hy hf => ?_⟩
    · rcases List.mem_append.1 hy with hy | hy
      · exact hh y hy
      · rw [List.mem_singleton.1 hy]; exact hm
    · rcases List.mem_append.1 hy with hy | hy
      · exact h4 y hy hf
      · rw [List.mem_singleton.1 hy]; exact hm
  · rw [if_neg h1]
    have hm : enNm x ∉ s.known := fun hh => h1 (List.contains_iff_mem.2 hh)
    by_cases h5 : finT s.known.contains 40 x.t = true
    · rw [if_pos h5]
      refine ⟨e1, fun k hk => List.mem_append_left _ (h.more k hk), ?_, fun k hk => ?_, fun K hK h0 k hk => ?_, (fun hg => (by cases hg)), fun _ => ?_, ?_⟩
      · rw [List.nodup_append]
        refine ⟨h.nodup, by simp, fun a ha b hb => ?_⟩
        rw [List.mem_singleton.1 hb]
        rintro rfl
        exact hm ha
      · rcases List.mem_append.1 hk with hk | hk
        · exact hsub k hk
        · exact .inr ⟨x, by simp, (List.mem_singleton.1 hk).symm⟩
      · rcases List.mem_append.1 hk with hk | hk
        · exact h.sound K hK h0 k hk
        · rw [List.mem_singleton.1 hk]
          exact hK x hx (finT_mono (fun k hk => h.sound K hK h0 k (List.contains_iff_mem.1 hk)) 40 x.t h5)
      · have := h.len
        rw [List.length_append, List.length_singleton]
        omega
      · have := h.len
        rw [List.length_append, List.length_singleton]
        omega
    · rw [if_neg h5]
      refine ⟨e1, h.more, h.nodup, hsub, h.sound, fun hg => ?_, h.grew, h.len⟩
      obtain ⟨h2, h3, h4⟩ := h.still hg
      rw [h2] at hm h5
      refine ⟨h2, ⟨fun hh => by simp at hh, fun hh => absurd (hh x (by simp)) hm⟩, fun y hy hf => ?_⟩
      rcases List.mem_append.1 hy with hy | hy
      · exact h4 y hy hf
      · rw [List.mem_singleton.1 hy] at hf
        exact absurd hf h5
theorem rd_fold {l0 : List En} {K0 : List (List UInt8)} : ∀ (q p : List En) (s : Fst), (∀ x ∈ q, x ∈ l0) → ((p ++ q).map enNm).Nodup → Rd l0 K0 p s → Rd l0 K0 (p ++ q) (q.foldl stepF s)
  | [], p, s, _, _, h => by simpa using h
  | x :: q, p, s, hq, hn, h => by
    have hn2 : ((p ++ [x] ++ q).map enNm).Nodup := by simpa using hn
    have h1 := rd_step h (hq x (by simp)) (by
      rw [List.map_append, List.map_append, List.nodup_append] at hn2
      have := hn2.1
      rw [List.nodup_append] at this
      intro hm
      exact this.2.2 _ hm _ (by simp) rfl)
    have h2 := rd_fold q (p ++ [x]) (stepF s x) (fun y hy => hq y (by simp [hy])) hn2 h1
    simpa using h2
theorem rd_round {l : List En} (hn : (l.map enNm).Nodup) {K0 : List (List UInt8)} (h0 : K0.Nodup) : Rd l K0 l (roundF K0 l) :=
  rd_fold l [] _ (fun _ h => h) hn ⟨rfl, fun _ h => h, h0, fun _ h => .inl h, fun _ _ h => h, fun _ => ⟨rfl, by simp, by simp⟩, (fun h => (by cases h)), Nat.le_refl _⟩
theorem nodup_len {α : Type} [DecidableEq α] : ∀ {a b : List α}, a.Nodup → (∀ x ∈ a, x ∈ b) → a.length ≤ b.length
  | [], _, _, _ => by simp
  | x :: a, b, hn, hs => by
    have hx : x ∈ b := hs x (by simp)
    obtain ⟨hxa, hna⟩ := List.nodup_cons.1 hn
    have h1 := nodup_len (b := b.erase x) hna fun y hy => by
      have hne : y ≠ x := fun e => hxa (e ▸ hy)
      exact (List.mem_erase_of_ne hne).2 (hs y (by simp [hy]))
    have h2 := List.length_erase_of_mem hx
    have h3 := List.length_pos_of_mem hx
    rw [List.length_cons]
    omega
theorem finLoop_iff {l : List En} (hn : (l.map enNm).Nodup) : ∀ (n : Nat) (K0 : List (List UInt8)), K0.Nodup → (∀ k ∈ K0, ∃ x ∈ l, enNm x = k) → l.length < n + K0.length →
    (∀ K : List UInt8 → Bool, (∀ x ∈ l, finT K 40 x.t = true → K (enNm x) = true) → ∀ k ∈ K0, K k = true) → (finLoop n K0 l = true ↔ FinS l)
  | 0, K0, h0, hs, hl, _ => by
    have := nodup_len h0 (b := l.map enNm) fun k hk => by obtain ⟨x, hx, e⟩ := hs k hk; exact List.mem_map.2 ⟨x, hx, e⟩
    rw [List.length_map] at this
    omega
  | n + 1, K0, h0, hs, hl, hb => by
    have h := rd_round hn h0
    unfold finLoop
    cases hg : (roundF K0 l).grows with
    | true =>
      rw [if_pos rfl]
      have h1 := h.grew hg
      refine finLoop_iff hn n _ h.nodup (fun k hk => ?_) (by omega) fun K hK => h.sound K hK (hb K hK)
      rcases h.sub k hk with h2 | h2
      · exact hs k h2
      · exact h2
    | false =>
      rw [if_neg (by simp)]
      obtain ⟨h2, h3, h4⟩ := h.still hg
      rw [decide_eq_true_iff, h3]
      refine ⟨fun hh K hK x hx => hb K hK _ (hh x hx), fun hf x hx => ?_⟩
      exact List.contains_iff_mem.1 (hf K0.contains (fun y hy hy2 => List.contains_iff_mem.2 (h4 y hy hy2)) x hx)
/-- What Finite tells, where the names differ. -/
theorem finB_iff {l : List En} (hn : (l.map enNm).Nodup) : finB l = true ↔ FinS l :=
  finLoop_iff hn _ [] (by simp) (by simp) (by simp) (by simp)
end Go.Proofs.Ytbjddomocggjmaa.Sc
end
section
namespace Go.Proofs.Ytbjddomocggjmaa.Sc
open Go.RowKit
abbrev FM := List (List UInt8 × ByteArray)
def dfNames (m : Md) : List ByteArray := m.df.map fun d => d.n
def mdNames (l : List Md) : List ByteArray := l.map fun m => m.n
/-- A module's own types and what they stand for. -/
def ownP (m : Md) : FM := m.df.map fun d => (d.n.data.toList, dotB m.n d.n)
/-- Has a module of such a name such a type of its own? -/
def ownHas (l : List Md) (fr s : ByteArray) : Bool := (l.find? fun m => m.n.data.toList == fr.data.toList).any fun m => (kys (dfNames m)).contains s.data.toList
def impN (h : ByteArray → ByteArray → Bool) (fr : ByteArray) : FM → List ByteArray → Option FM
  | fm, [] => some fm
  | fm, s :: r => if ((lookS fm s.data.toList).isSome || !h fr s) = true then none else impN h fr (fm ++ [(s.data.toList, dotB fr s)]) r
def impI (h : ByteArray → ByteArray → Bool) : FM → List Im → Option FM
  | fm, [] => some fm
  | fm, x :: r => (impN h x.f1 fm x.f0).bind fun fm' => impI h fm' r
def enOf (f : List UInt8 → Option ByteArray) (m : Md) (d : Df) : Option En := (typP f 40 d.t).map fun t => ⟨m.n, d.n, m.au, t⟩
def modP (h : ByteArray → ByteArray → Bool) (m : Md) : Option (List En) := (impI h (ownP m) m.im).bind fun fm => mapO (enOf (lookS fm) m) m.df
def allP (l : List Md) : Option (List En) := (mapO (modP (ownHas l)) l).map List.flatten
def badB (l : List Md) : Bool := decide (256 < l.length) || l.any fun m => !mdB m
def dupB (l : List Md) : Bool := !onceB (mdNames l) || l.any fun m => !onceB (dfNames m)
/-- Resolve: its error and its entries. -/
def resP (l : List Md) : Int × List En :=
  if badB l = true then (1, []) else if dupB l = true then (7, []) else match allP l with
    | none => (7, [])
    | some y => if finB y = true then (0, y) else (9, [])
theorem bad_false {l : List Md} : badB l = false ↔ l.length ≤ 256 ∧ ∀ m ∈ l, mdB m = true := by
  unfold badB
  rw [Bool.or_eq_false_iff, decide_eq_false_iff_not, List.any_eq_false]
  simp
theorem dup_false {l : List Md} : dupB l = false ↔ onceB (mdNames l) = true ∧ ∀ m ∈ l, onceB (dfNames m) = true := by
  unfold dupB
  rw [Bool.or_eq_false_iff, List.any_eq_false]
  simp
/-- A type that cannot be named. -/
theorem res_none {l : List Md} {m : Md} (h : ∀ h, modP h m = none) (hm : m ∈ l) : (resP l).1 = 7 ∨ (resP l).1 = 1 := by
  unfold resP
  cases h1 : badB l with
  | true => exact .inr rfl
  | false =>
    rw [if_neg (by simp)]
    cases h2 : dupB l with
    | true => exact .inl rfl
    | false =>
      rw [if_neg (by simp)]
      have : allP l = none := by
        unfold allP
        rw [mapO_none hm (h _)]
        rfl
      rw [this]
      exact .inl rfl
end Go.Proofs.Ytbjddomocggjmaa.Sc
end
section
namespace Go.Proofs.Ytbjddomocggjmaa.Sc
open Go.RowKit Go.ChangeShapes Go.WideShapes Go.Proofs.Ytbjddomocggjmaa.Sep
open Go.Proofs.YtbjddomocggjmaaW.PrintWords
variable {B : Nat} {w0 w : World} {R : HP}
theorem rdigit_calls (c : Int) (w : World) : Calls Try.prog 124 #[.int .u8 c] w fun e w' => e = .returned (.bool (digitI c)) ∧ w = w' := by
  by_cases h1 : 48 ≤ c
  · have d1 : decide (48 ≤ c) = true := decide_eq_true h1
    have e1 : (48 ≤ c) = True := eq_true h1
    by_cases h2 : c ≤ 57
    · have d2 : decide (c ≤ 57) = true := decide_eq_true h2
      have e2 : (c ≤ 57) = True := eq_true h2
      have HD : Hid (digitI c = true) := Lib.hid (decide_eq_true ⟨h1, h2⟩)
      go_enter Try.func124, Try.ntmps124
      go_wp2
      go_ret
      exact ⟨by rw [HD.out]; rfl, rfl⟩
    · have d2 : decide (c ≤ 57) = false := decide_eq_false h2
      have e2 : (c ≤ 57) = False := eq_false h2
      have HD : Hid (digitI c = false) := Lib.hid (decide_eq_false fun h => h2 h.2)
      go_enter Try.func124, Try.ntmps124
      go_wp2
      go_ret
      exact ⟨by rw [HD.out]; rfl, rfl⟩
  · have d1 : decide (48 ≤ c) = false := decide_eq_false h1
    have e1 : (48 ≤ c) = False := eq_false h1
    have HD : Hid (digitI c = false) := Lib.hid (decide_eq_false fun h => h1 h.1)
    go_enter Try.func124, Try.ntmps124
    go_wp2
    go_ret
    exact ⟨by rw [HD.out]; rfl, rfl⟩
theorem rletter_calls (c : Int) (w : World) : Calls Try.prog 123 #[.int .u8 c] w fun e w' => e = .returned (.bool (letterI c)) ∧ w = w' := by
  have HD : Hid (letterI c = (decide (97 ≤ c) && decide (c ≤ 122) || decide (65 ≤ c) && decide (c ≤ 90))) := Lib.hid (by unfold letterI; rw [Bool.eq_iff_iff]; simp)
  cases d1 : decide (97 ≤ c) <;> cases d2 : decide (c ≤ 122) <;> cases d3 : decide (65 ≤ c) <;> cases d4 : decide (c ≤ 90)
  all_goals
    rw [d1, d2, d3, d4] at HD
    go_enter Try.func123, Try.ntmps123
    go_wp2
    go_ret
    exact ⟨by rw [HD.out]; rfl, rfl⟩
end Go.Proofs.Ytbjddomocggjmaa.Sc
end
