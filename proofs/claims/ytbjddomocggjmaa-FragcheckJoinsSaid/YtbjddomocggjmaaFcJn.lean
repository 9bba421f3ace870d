/- FragcheckJoins: the walk of the law. -/
import Derived.Test.YtbjddomocggjmaaFcB
import Derived.Deep.RegionHeld3
namespace Go.Proofs.Ytbjddomocggjmaa.Fc
open Go.RowKit Go.ChangeShapes Go.WideShapes Go.Proofs.Ytbjddomocggjmaa.Open Go.Proofs.Ytbjddomocggjmaa.Sep
open Go.Proofs.YtbjddomocggjmaaW.PrintWords

section
variable {H : Type} {enc : TypeId × Value → H} {W : World} {base : Nat} {spare : Nat → Bool} {held : Bool}
theorem open_funcsQ {v : Value} {d : DataW H} {p : List MemPlace} (h : DataW.Trod enc Try.prog W base spare held 22 v d p) (hw : (d.weights Try.prog 22).all (· ≤ reachBytes) = true) (hv : ∃ a len cap, v = .slice a len cap) :
    ∃ A c l, v = .slice A l.length c ∧ l.length ≤ c ∧ (CF W A l ∧ c ≤ maxLen) ∧ (∀ f ∈ l, okF f) ∧ l.length ≤ M := by
  obtain ⟨a, len, cap, rfl⟩ := hv
  obtain ⟨fuel, hf⟩ := h
  have hf' : DataW.trod enc Try.prog W base spare held fuel 22 [.slice a len cap] = some (d, p) := hf
  obtain ⟨l, hL, b⟩ := open_listW (K := fun W cs x => PFragcheckChecks.k34.K W x cs ∧ okF x) (size := 2) (Bt := 40) Try.underlying22 (by kernel_rfl) (by decide) (by kernel_rfl) (fun n _ cs y hl hy hw => open_func n cs y hl hy hw) hf' hw
  obtain ⟨rfl, g1, g2, k1, o1⟩ := c_of_slice (d := PFragcheckChecks.k34) rfl hL
  exact ⟨a, cap, l, rfl, g1, ⟨k1, g2⟩, o1, by omega⟩
end
/-! ### Plain -/
theorem distinct_append : ∀ x y : List (List UInt8), distinctB (x ++ y) = true ↔ distinctB x = true ∧ distinctB y = true ∧ ∀ k ∈ x, k ∉ y
  | [], y => by simp [distinctB]
  | a :: x, y => by
    rw [List.cons_append, distinctB, Bool.and_eq_true, distinct_append x y, distinctB, Bool.and_eq_true]
    have e : (!(x ++ y).contains a) = true ↔ (!x.contains a) = true ∧ a ∉ y := by
      simp
    rw [e]
    constructor
    · rintro ⟨⟨h1, h2⟩, h3, h4, h5⟩
      refine ⟨⟨h1, h3⟩, h4, fun k hk => ?_⟩
      rcases List.mem_cons.1 hk with rfl | hk
      · exact h2
      · exact h5 k hk
    · rintro ⟨⟨h1, h3⟩, h4, h5⟩
      exact ⟨⟨h1, h5 a (by simp)⟩, h3, h4, fun k hk => h5 k (by simp [hk])⟩
theorem names_append (a b : List Func) : namesOf (a ++ b) = namesOf a ++ namesOf b := by simp [namesOf]
theorem err_zero {l : List Func} (h : errI l = 0) : shapedB l = true ∧ distinctB (namesOf l) = true ∧ (l.all fun f => allB (knownB (namesOf l)) f.f1) = true ∧ (l.all fun f => allB typedB f.f1) = true := by
  unfold errI at h
  cases h1 : shapedB l with
  | false => rw [h1, if_neg (by simp)] at h; cases h
  | true =>
    rw [h1, if_pos rfl] at h
    cases h2 : distinctB (namesOf l) with
    | false => rw [h2, Bool.false_and, if_neg (by simp)] at h; cases h
    | true =>
      cases h3 : (l.all fun f => allB (knownB (namesOf l)) f.f1) with
      | false => rw [h2, h3, Bool.and_false, if_neg (by simp)] at h; cases h
      | true =>
        rw [h2, h3, Bool.and_true, if_pos rfl] at h
        cases h4 : (l.all fun f => allB typedB f.f1) with
        | false => rw [h4, if_neg (by simp)] at h; cases h
        | true => exact ⟨rfl, rfl, rfl, rfl⟩
theorem shaped_append {a b : List Func} (ha : shapedB a = true) (hb : shapedB b = true) (hl : a.length + b.length ≤ 4096) : shapedB (a ++ b) = true := by
  unfold shapedB at *
  rw [Bool.and_eq_true] at *
  rw [List.all_append, ha.2, hb.2]
  exact ⟨by rw [List.length_append]; simpa using hl, rfl⟩
theorem allB_mono {p q : Stmt → Bool} (n : Nat) : ∀ l : List Stmt, SizeOf.sizeOf l < n → (∀ s, p s = true → q s = true) → allB p l = true → allB q l = true := by
  induction n with
  | zero => intro l h; omega
  | succ n ih =>
    intro l hl hpq h
    rw [allB_eq, List.all_eq_true] at *
    intro s hs
    have := h s hs
    rw [Bool.and_eq_true, Bool.and_eq_true] at *
    have h3 := size3 hs
    have h4 := size4 hs
    exact ⟨hpq s this.1, ih _ (by omega) hpq this.2.1, ih _ (by omega) hpq this.2.2⟩
theorem known_mono {ks ks' : List (List UInt8)} (h : ∀ k ∈ ks, k ∈ ks') (l : List Stmt) (hl : allB (knownB ks) l = true) : allB (knownB ks') l = true := by
  refine allB_mono _ l (Nat.lt_succ_self _) (fun s hs => ?_) hl
  unfold knownB at *
  rw [Bool.or_eq_true] at *
  rcases hs with hs | hs
  · exact .inl hs
  · rw [List.contains_iff_mem] at hs
    exact .inr (List.contains_iff_mem.2 (h _ hs))
theorem find_in (nm : ByteArray) (l : List Func) : findN (nameB nm) l 0 < 0 ↔ nm.data.toList ∉ namesOf l := by
  have h := find_neg (nameB nm) l 0
  rw [name_contains] at h
  constructor
  · intro hn hm
    rw [decide_eq_true hn, List.contains_iff_mem.2 hm] at h
    cases h
  · intro hm
    rw [show (namesOf l).contains nm.data.toList = false from Bool.eq_false_iff.2 fun hc => hm (List.contains_iff_mem.1 hc)] at h
    exact of_decide_eq_true h
theorem join_clash {a b : List Func} (ha : errI a = 0) (hb : errI b = 0) (hl : a.length + b.length ≤ 4096) {f : Func} (hf : f ∈ a) (hn : ¬ findN (nameB f.f0) b 0 < 0) : errI (a ++ b) = 7 := by
  obtain ⟨s1, -⟩ := err_zero ha
  obtain ⟨s2, -⟩ := err_zero hb
  unfold errI
  have hd : distinctB (namesOf (a ++ b)) = false := by
    refine Bool.eq_false_iff.2 fun h => ?_
    rw [names_append, distinct_append] at h
    rw [find_in] at hn
    exact hn (h.2.2 _ (List.mem_map.2 ⟨f, hf, rfl⟩))
  rw [shaped_append s1 s2 hl, if_pos rfl, hd]
  rfl
theorem join_fine {a b : List Func} (ha : errI a = 0) (hb : errI b = 0) (hl : a.length + b.length ≤ 4096) (hn : ∀ f ∈ a, findN (nameB f.f0) b 0 < 0) : errI (a ++ b) = 0 := by
  obtain ⟨s1, d1, k1, t1⟩ := err_zero ha
  obtain ⟨s2, d2, k2, t2⟩ := err_zero hb
  unfold errI
  have hd : distinctB (namesOf (a ++ b)) = true := by
    rw [names_append, distinct_append]
    refine ⟨d1, d2, fun k hk => ?_⟩
    obtain ⟨f, hf, rfl⟩ := List.mem_map.1 hk
    exact (find_in _ _).1 (hn f hf)
  have hk : ((a ++ b).all fun f => allB (knownB (namesOf (a ++ b))) f.f1) = true := by
    rw [List.all_append, Bool.and_eq_true, names_append]
    rw [List.all_eq_true] at k1 k2
    refine ⟨List.all_eq_true.2 fun f hf => known_mono (fun k hk => List.mem_append_left _ hk) _ (k1 f hf), List.all_eq_true.2 fun f hf => known_mono (fun k hk => List.mem_append_right _ hk) _ (k2 f hf)⟩
  rw [shaped_append s1 s2 hl, if_pos rfl, hd, hk, List.all_append, t1, t2]
  rfl
def ZZ : ByteArray := ⟨#[122, 122]⟩
def ZZZ : ByteArray := ⟨#[122, 122, 122]⟩
def oneF : Func := ⟨ZZ, [sCall ZZZ]⟩
theorem fn_ZZ : fnB ZZ = true := by unfold fnB; rw [Lib.toList_data]; decide +kernel
theorem fn_ZZZ : fnB ZZZ = true := by unfold fnB; rw [Lib.toList_data]; decide +kernel
theorem one_shaped : shapedB [oneF] = true := by
  have e : shapedB [oneF] = (fnB ZZ && (stmtB (bodyB 39) (sCall ZZZ) && true) && true) := rfl
  rw [e, fn_ZZ, st_call ZZZ fn_ZZZ]
  rfl
theorem one_okF : okF oneF := ⟨by show 2 ≤ M; decide, by show 1 ≤ M; decide, fun x hx => by
  obtain rfl := List.mem_singleton.1 hx
  exact ok_call ZZZ (by show 3 ≤ M; decide)⟩
theorem join_more {l : List Func} (hs : shapedB l = true) (hl : l.length < 4096) (hn : findN (nameB ZZZ) l 0 < 0) : errI (l ++ [oneF]) = 7 := by
  refine err_known (f := oneF) (shaped_append hs one_shaped (by simp; omega)) (by simp) ?_
  have hc : (namesOf (l ++ [oneF])).contains ZZZ.data.toList = false := by
    refine Bool.eq_false_iff.2 fun h => ?_
    rw [List.contains_iff_mem, names_append, List.mem_append] at h
    rcases h with h | h
    · exact (find_in _ _).1 hn h
    · revert h
      decide
  show allB (knownB (namesOf (l ++ [oneF]))) [sCall ZZZ] = false
  rw [allB_eq, List.all_cons]
  have : knownB (namesOf (l ++ [oneF])) (sCall ZZZ) = false := by
    show (false || (namesOf (l ++ [oneF])).contains ZZZ.data.toList) = false
    rw [hc]
    rfl
  rw [this]
  rfl
/-! ### Rows of elements -/
section
variable {α : Type} {d : Kd α} {W : World}
theorem c_reads {A : Option Addr} {c : Nat} {l : List α} (h : d.C W A l.length l) (hc : l.length ≤ c) (hcm : c ≤ maxLen) : ∃ xs, Reps (d.K W) d.sz l xs ∧ ReadsV d.sz W (.slice A l.length c) l.length xs := by
  cases l with
  | nil => exact ⟨[], Reps.none _ _, ⟨by simp, A, c, rfl, hc, hcm, fun j u hu => by simp at hu⟩⟩
  | cons a l =>
    obtain ⟨ad, rfl, -⟩ := h.2.2 (by simp)
    obtain ⟨xs, h1, h2⟩ := ReadsRow.inner_ h
    exact ⟨xs, h1, h1.1, some ad, c, rfl, hc, hcm, fun j u hu => ⟨ad, rfl, h2 j u hu⟩⟩
theorem reps_one {l : List α} {xs : List Value} (h : Reps (d.K W) d.sz l xs) : ∀ u ∈ xs, u.oneCell' = true := by
  intro u hu
  obtain ⟨j, hj⟩ := List.getElem?_of_mem hu
  have hjl := (List.getElem?_eq_some_iff.1 hj).1
  rw [h.1] at hjl
  have hz : 0 < d.sz := Nat.pos_of_ne_zero fun h0 => by rw [h0, Nat.mul_zero] at hjl; omega
  have hq : j / d.sz < l.length := Nat.div_lt_of_lt_mul (by rwa [Nat.mul_comm] at hjl)
  have hk := h.2 (j / d.sz) _ (List.getElem?_eq_getElem hq)
  refine d.K_one hk u (List.mem_of_getElem? (i := j % d.sz) ?_)
  rw [List.getElem?_take, if_pos (Nat.mod_lt _ hz), List.getElem?_drop, Nat.mul_comm, Nat.div_add_mod]
  exact hj
theorem c_of_reads {A : Option Addr} {n c : Nat} {l : List α} {xs : List Value} (hR : Reps (d.K W) d.sz l xs) (hz : 0 < d.sz) (h : ReadsV d.sz W (.slice A n c) n xs) (hn : n = l.length) : d.C W A n l := by
  subst hn
  obtain ⟨h1, A', c', e, h2, h3, h4⟩ := h
  cases e
  refine ⟨rfl, by simp only [maxLen] at h3; omega, fun h0 => ?_⟩
  have hx0 : 0 < xs.length := by rw [h1]; exact Nat.mul_pos h0 hz
  obtain ⟨ad, rfl, -⟩ := h4 0 _ (List.getElem?_eq_getElem hx0)
  refine ⟨ad, rfl, fun j p hp => ⟨_, ?_, hR.2 j p hp, fun i u hu => ?_⟩⟩
  · have hj := (List.getElem?_eq_some_iff.1 hp).1
    have : j * d.sz + d.sz ≤ xs.length := by rw [h1, ← Nat.succ_mul]; exact Nat.mul_le_mul_right _ hj
    rw [List.length_take, List.length_drop]
    omega
  · rw [List.getElem?_take] at hu
    split at hu
    · rw [List.getElem?_drop] at hu
      obtain ⟨ad', e, h5⟩ := h4 _ u hu
      cases e
      exact h5
    · cases hu
end
/-- It holds a goal back. -/
structure Held (p : Prop) : Prop where
  out : p
theorem info_parts {P : Program} {t : TypeId} {z : Value} {n b : Nat} (h : (P.info? t).map (fun i => (i.zero, i.size, i.bytes)) = some (some z, n, b)) : ∃ i, P.info? t = some i ∧ i.zero = some z ∧ i.size = n ∧ i.bytes = b := by
  rw [Option.map_eq_some_iff] at h
  obtain ⟨i, h1, h2⟩ := h
  simp only [Prod.mk.injEq] at h2
  exact ⟨i, h1, h2.1, h2.2.1, h2.2.2⟩
theorem infoF : (Try.prog.info? 34).map (fun i => (i.zero, i.size, i.bytes)) = some (some (.agg #[.string ByteArray.empty, .slice none 0 0]), 2, 40) := by kernel_rfl
section
variable {B : Nat} {w0 w : World} {R : HP}
theorem wp_appendF {o : Oper} {a : Act} {K : Act → World → Prop} {Q : Exit → Act → World → Prop} (s x : Operand)
    (ho : o.op = .call { callee := .builtin .append, args := #[s, x], argTypes := #[22, 22] }) (v : Value) (n : Nat) (xs : List Value)
    (hs : a.eval s = v) (h : St B w0 w (RowV 34 2 v n xs • R)) {src : Value} {m : Nat} {news : List Value} (hx : a.eval x = src) (hr : ReadsV 2 w src m news) (h1 : ∀ u ∈ news, u.oneCell' = true) (h63 : n + m ≤ 5000)
    (hK : ∀ v' w', St B w0 w' (RowV 34 2 v' (n + m) (xs ++ news) • R) → K (a.put o.dst v') w') : Oper.wp Try.prog o a w K Q := by
  obtain ⟨i0, hi, hz0, hz1, hz2⟩ := info_parts infoF
  obtain ⟨v', w', hrun, hst⟩ := h.run_append (P := Try.prog) 22 o.type i0 (.agg #[.string ByteArray.empty, .slice none 0 0]) 40 Try.underlying22 hi hz0 hz1 hz2 rfl (by decide) hr h1 (by simp only [maxLen]; omega) (by omega)
  unfold Oper.wp execOp
  simp only [ho, resolve, invoke, builtin, Sem.run_bind, Sem.run_pure, Result.andThen_ok, List.map_toArray, List.map_cons, List.map_nil, hs, hx, hrun]
  exact hK v' w' hst
theorem appendF {ops : Array Oper} {rest : List Oper} {o : Oper} {a : Act} {Q : Exit → Act → World → Prop} (hw : Region.wanted o (yielded ops a.tmps) = true) (s x : Operand)
    (ho : o.op = .call { callee := .builtin .append, args := #[s, x], argTypes := #[22, 22] }) (v : Value) (n : Nat) (xs : List Value)
    (hs : a.eval s = v) (h : St B w0 w (RowV 34 2 v n xs • R)) {src : Value} {m : Nat} {news : List Value} (hx : a.eval x = src) (hr : ReadsV 2 w src m news) (h1 : ∀ u ∈ news, u.oneCell' = true) (h63 : n + m ≤ 5000)
    (hK : ∀ v' w', St B w0 w' (RowV 34 2 v' (n + m) (xs ++ news) • R) → wpList Try.prog ops Q rest (a.put o.dst v') w') : wpList Try.prog ops Q (o :: rest) a w := by
  unfold wpList
  rw [if_pos hw]
  exact .inl (wp_appendF s x ho v n xs hs h hx hr h1 h63 hK)
theorem step_appendF {ops : Array Oper} {o : Oper} {a : Act} {K : Act → World → Prop} {Q : Exit → Act → World → Prop} {E : Prop} (hw : Region.wanted o (yielded ops a.tmps) = true) (s x : Operand)
    (ho : o.op = .call { callee := .builtin .append, args := #[s, x], argTypes := #[22, 22] }) (v : Value) (n : Nat) (xs : List Value)
    (hs : a.eval s = v) (h : St B w0 w (RowV 34 2 v n xs • R)) {src : Value} {m : Nat} {news : List Value} (hx : a.eval x = src) (hr : ReadsV 2 w src m news) (h1 : ∀ u ∈ news, u.oneCell' = true) (h63 : n + m ≤ 5000)
    (hK : ∀ v' w', St B w0 w' (RowV 34 2 v' (n + m) (xs ++ news) • R) → K (a.put o.dst v') w') : if Region.wanted o (yielded ops a.tmps) = true then Oper.wp Try.prog o a w K Q else E := by
  rw [if_pos hw]
  exact wp_appendF s x ho v n xs hs h hx hr h1 h63 hK
theorem blkReads2 {g : Nat} {cs : Array Value} {e : TypeId} {fr : Nat × Nat} (h : St B w0 w (Blk g (.cells cs e fr) • R)) {n c size : Nat} {xs : List Value} (hs : cs.size = n * size) (hnc : n ≤ c) (hc : c ≤ maxLen) (hx : xs = cs.toList) :
    ReadsV size w (.slice (some ⟨g, 0, none⟩) n c) n xs := by
  subst hx
  refine ⟨by simpa using hs, _, _, rfl, hnc, hc, fun j u hu => ⟨_, rfl, ?_⟩⟩
  rw [Sep.add_plain]
  exact h.cell j (by simpa using hu)
/-- An empty list that was made. -/
theorem made0 {n : Nat} (h : St B w0 w R) (hn : n = w.heap.size) : St B w0 (w.alloc (.cells #[] 34)) (RowV 34 2 (.slice (some ⟨n, 0, none⟩) 0 0) 0 [] • R) :=
  (alloc_at h _ hn).blkRow (Nat.le_refl 0) (Nat.zero_le _) rfl (.inr (Nat.le_refl 0)) rfl
theorem check_row (v : Value) (n : Nat) (xs : List Value) (l : List Func) (h : St B w0 w (RowV 34 2 v n xs • R)) (hR : Reps (PFragcheckChecks.k34.K w) 2 l xs) (hn : n = l.length) (ho : ∀ x ∈ l, okF x) :
    Calls Try.prog 12 #[v] w fun e w' => e = .returned (.int .i64 (errI l)) ∧ St B w0 w' (RowV 34 2 v n xs • R) := by
  have hr := h.reads
  obtain ⟨-, A, c, rfl, -⟩ := id hr
  have hC := c_of_reads (d := PFragcheckChecks.k34) hR (by decide) hr hn
  subst hn
  exact check_at A c l h hC ho
theorem shaped_row (v : Value) (n : Nat) (xs : List Value) (l : List Func) (h : St B w0 w (RowV 34 2 v n xs • R)) (hR : Reps (PFragcheckChecks.k34.K w) 2 l xs) (hn : n = l.length) (ho : ∀ x ∈ l, okF x) :
    Calls Try.prog 16 #[v] w fun e w' => e = .returned (.bool (shapedB l)) ∧ St B w0 w' (RowV 34 2 v n xs • R) := by
  have hr := h.reads
  obtain ⟨-, A, c, rfl, -⟩ := id hr
  have hC := c_of_reads (d := PFragcheckChecks.k34) hR (by decide) hr hn
  subst hn
  exact shaped_at A c l h hC ho
theorem find_row (v : Value) (n : Nat) (xs : List Value) (l : List Func) (nm : ByteArray) (h : St B w0 w (RowV 34 2 v n xs • R)) (hR : Reps (PFragcheckChecks.k34.K w) 2 l xs) (hn : n = l.length) :
    Calls Try.prog 14 #[v, .string nm] w fun e w' => e = .returned (.int .i64 (findN (nameB nm) l 0)) ∧ St B w0 w' (RowV 34 2 v n xs • R) := by
  have hr := h.reads
  obtain ⟨-, A, c, rfl, -⟩ := id hr
  have hC := c_of_reads (d := PFragcheckChecks.k34) hR (by decide) hr hn
  subst hn
  exact find_at2 A c l nm h hC
end
theorem below_reps {l : List Func} {xs : List Value} {w w1 : World} (h : Reps (PFragcheckChecks.k34.K w) 2 l xs) (hb : Below w.heap.size w w1) : Reps (PFragcheckChecks.k34.K w1) 2 l xs := h.imp_ fun _ _ hp => PFragcheckChecks.k34.K_below hb hp
theorem more_reps {B : Nat} {w0 w : World} {R : HP} {l : List Func} {xs : List Value} {g : Nat} (h : Reps (PFragcheckChecks.k34.K w) 2 l xs) (hs : St B w0 w (Blk g (.cells #[.int .i64 2, .string ZZZ, .slice none 0 0, .slice none 0 0, .slice none 0 0] 32) • R)) :
    Reps (PFragcheckChecks.k34.K w) 2 (l ++ [oneF]) ([] ++ xs ++ [.string ZZ, .slice (some ⟨g, 0, none⟩) 1 1]) := by
  have k1 : CS w (some ⟨g, 0, none⟩) [sCall ZZZ] := lit1 (cs := [.int .i64 2, .string ZZZ, .slice none 0 0, .slice none 0 0, .slice none 0 0]) rfl (PFragcheckChecks.k32_mk w (sCall ZZZ) (Nat.le_refl 0) nilC (Nat.le_refl 0) nilC (Nat.le_refl 0) nilC) fun i u hu => hs.cell i (by simpa using hu)
  exact Reps.snoc h (PFragcheckChecks.k34_mk w oneF (Nat.le_refl 1) k1) rfl
set_option maxHeartbeats 4000000 in
set_option maxRecDepth 100000 in
theorem lawjoins_calls (A : Option Addr) (c : Nat) (a : List Func) (A' : Option Addr) (c' : Nat) (b : List Func) (w : World) (hCa : CF w A a ∧ c ≤ maxLen) (hca : a.length ≤ c) (hla : a.length ≤ M) (hoa : ∀ x ∈ a, okF x) (hCb : CF w A' b ∧ c' ≤ maxLen) (hcb : b.length ≤ c') (hlb : b.length ≤ M) (hob : ∀ x ∈ b, okF x) :
    Calls Try.prog 5 #[.slice A a.length c, .slice A' b.length c'] w fun e w' => e = .returned (.bool true) ∧ Below w.heap.size w w' := by
  have H := Lib.hid (St.start w)
  have HCa := Lib.hid (fun (W : World) (Q : HP) (h : St w.heap.size w W Q) => Kd.C_below hCa.1 h.below)
  have HCb := Lib.hid (fun (W : World) (Q : HP) (h : St w.heap.size w W Q) => Kd.C_below hCb.1 h.below)
  have HO := Lib.hid (And.intro hca (And.intro hoa (And.intro hcb hob)))
  obtain ⟨xa, hra, hva⟩ := c_reads hCa.1 hca hCa.2
  obtain ⟨xb, hrb, hvb⟩ := c_reads hCb.1 hcb hCb.2
  have HXa := Lib.hid (fun (W : World) (Q : HP) (h : St w.heap.size w W Q) => ReadsV.below hva h.below)
  have HXb := Lib.hid (fun (W : World) (Q : HP) (h : St w.heap.size w W Q) => ReadsV.below hvb h.below)
  have HRab : Hid (∀ (W : World) (Q : HP), St w.heap.size w W Q → Reps (PFragcheckChecks.k34.K W) 2 (a ++ b) ([] ++ xa ++ xb)) := Lib.hid fun W Q h => Kd.reps_append (below_reps hra h.below) (below_reps hrb h.below)
  have HX1 := Lib.hid (And.intro (reps_one hra) (reps_one hrb))
  have HCell := Lib.hid hCa.1
  have hla2 : a.length ≤ 140737488351232 := hla
  have hlb2 : b.length ≤ 140737488351232 := hlb
  have HOab : Hid (∀ x ∈ a ++ b, okF x) := Lib.hid fun x hx => (List.mem_append.1 hx).elim (hoa x) (hob x)
  clear hCa hca hoa hCb hcb hob hra hva hrb hvb
  go_enter Try.func5, Try.ntmps5
  go_wp2_with fail
  refine (awake20_calls H.out).mono ?_
  rintro e w1 ⟨rfl, h1⟩
  have H1 := Lib.hid h1
  clear h1 H
  go_wp2_with fail
  refine (few_at A c a 2000 H1.out (HCa.out _ _ H1.out) HO.out.1 hla HO.out.2.1).mono ?_
  rintro e w2 ⟨r1, rfl, h2⟩
  have H2 := Lib.hid h2
  clear h2 H1
  cases r1 with
  | false =>
    go_wp2
    go_ret
    exact ⟨rfl, H2.out.below⟩
  | true =>
  go_wp2_with fail
  refine (few_at A' c' b 2000 H2.out (HCb.out _ _ H2.out) HO.out.2.2.1 hlb HO.out.2.2.2).mono ?_
  rintro e w3 ⟨r2, rfl, h3⟩
  have H3 := Lib.hid h3
  clear h3 H2
  cases r2 with
  | false =>
    go_wp2
    go_ret
    exact ⟨rfl, H3.out.below⟩
  | true =>
  go_wp2_with fail
  refine (check_at A c a H3.out (HCa.out _ _ H3.out) HO.out.2.1).mono ?_
  rintro e w4 ⟨rfl, h4⟩
  have H4 := Lib.hid h4
  clear h4 H3
  by_cases qa : errI a = 0
  case neg =>
    generalize errI a = ea at *
    have q1 : (ea != 0) = true := bne_iff_ne.2 qa
    go_wp2
    go_ret
    exact ⟨rfl, H4.out.below⟩
  rw [qa]
  go_wp2_with fail
  refine (check_at A' c' b H4.out (HCb.out _ _ H4.out) HO.out.2.2.2).mono ?_
  rintro e w5 ⟨rfl, h5⟩
  have H5 := Lib.hid h5
  clear h5 H4
  by_cases qb : errI b = 0
  case neg =>
    generalize errI b = ea at *
    have q1 : (ea != 0) = true := bne_iff_ne.2 qb
    go_wp2
    go_ret
    exact ⟨rfl, H5.out.below⟩
  rw [qb]
  have HQ := Lib.hid (And.intro qa qb)
  clear qa qb
  by_cases ql : 4096 < a.length + b.length
  · have p1 : decide ((4096 : Int) < (a.length : Int) + (b.length : Int)) = true := decide_eq_true (by omega)
    go_wp2
    go_ret
    exact ⟨rfl, H5.out.below⟩
  have p1 : decide ((4096 : Int) < (a.length : Int) + (b.length : Int)) = false := decide_eq_false (by omega)
  have hlab : a.length + b.length ≤ 4096 := by omega
  go_wp2
  go_loopw [6] (fun v wr => ∃ x : Int, 0 ≤ x ∧ x ≤ a.length ∧ v = .int .i64 x ∧ Hid (St w.heap.size w wr emp) ∧ Hid (∀ f ∈ a.take x.toNat, findN (nameB f.f0) b 0 < 0)) (fun v _ => a.length - (intOf v).toNat)
  case atStart => exact ⟨0, Int.le_refl _, by omega, rfl, H5, Lib.hid no_mem⟩
  case round =>
    clear H5 ql
    obtain ⟨x, hx0, hx1, rfl, HS, HN⟩ := hrel
    by_cases hlt : x < a.length
    · obtain ⟨ad, cs, rfl, hcl, hK, hcell0⟩ := Kd.C_get HCell.out PFragcheckChecks.z34 x hx0 hlt
      have hcell : ∀ (j : Nat) (u : Value), cs[j]? = some u → w.cell? (ad.add (x.toNat * 2 + j)) = some u := hcell0
      clear hcell0
      have HR := Lib.hid (getD_mem a PFragcheckChecks.z34 x hx0 hlt)
      obtain ⟨A1, c1, rfl, -⟩ := PFragcheckChecks.k34_open (id hK)
      generalize a.getD x.toNat PFragcheckChecks.z34 = r at *
      have d0 : wr.cell? (ad.add (x.toNat * 2)) = some (.string r.f0) := pw_cell_below HS.out.below (hcell 0 _ rfl)
      clear hcell hK hcl
      have p126 := eq_true hx0
      have q126 : (x < (a.length : Int)) = True := eq_true hlt
      go_wp2_with fail
      refine (find_at2 A' c' b r.f0 HS.out (HCb.out _ _ HS.out)).mono ?_
      rintro e w6 ⟨rfl, h6⟩
      have H6 := Lib.hid h6
      clear h6
      generalize hy : findN (nameB r.f0) b 0 = y
      have HY := Lib.hid hy
      by_cases qy : y < 0
      · have qy2 : (0 ≤ y) = False := eq_false (by omega)
        have qy3 : decide (0 ≤ y) = false := decide_eq_false (by omega)
        have HN2 : Hid (∀ f ∈ a.take (x + 1).toNat, findN (nameB f.f0) b 0 < 0) := Lib.hid fun f hf => by
          have e1 : (x + 1).toNat = x.toNat + 1 := by omega
          rw [e1, List.take_add_one, HR.out] at hf
          rcases List.mem_append.1 hf with hf | hf
          · exact HN.out f hf
          · obtain rfl : f = r := by simpa using hf
            rw [hy]; exact qy
        clear d0 hy
        go_wp2
        exact ⟨⟨x + 1, by omega, by omega, by go_num, H6, HN2⟩, by simp only [intOf]; omega⟩
      · have qy2 : (0 ≤ y) = True := eq_true (by omega)
        have qy3 : decide (0 ≤ y) = true := decide_eq_true (by omega)
        have HE := Lib.hid (join_clash HQ.out.1 HQ.out.2 hlab (List.mem_of_getElem? HR.out) (by rw [hy]; exact qy))
        clear d0 hy
        have H7 := Lib.hid (made0 H6.out rfl)
        go_wp2_with (at_builtin; refine Held.out ?_)
        refine ⟨?_⟩
        refine appendF (by rfl) _ _ rfl _ 0 [] rfl H7.out rfl (HXa.out _ _ H7.out) HX1.out.1 (by omega) ?_
        intro v8 w8 h8
        have H8 := Lib.hid h8
        clear h8 H7 H6
        go_wp2_with (at_builtin; refine Held.out ?_)
        refine ⟨?_⟩
        refine appendF (by rfl) _ _ rfl _ (0 + a.length) ([] ++ xa) rfl H8.out rfl (HXb.out _ _ H8.out) HX1.out.2 (by omega) ?_
        intro v9 w9 h9
        have H9 := Lib.hid h9
        clear h9 H8
        go_wp2_with fail
        refine (check_row v9 _ _ (a ++ b) H9.out (HRab.out _ _ H9.out) (by rw [List.length_append, Nat.zero_add]) HOab.out).mono ?_
        rintro e w10 ⟨rfl, h10⟩
        rw [HE.out]
        have H10 := Lib.hid h10
        clear h10 H9
        go_wp2
        go_ret
        exact ⟨rfl, H10.out.below⟩
    · have hlt' : (x < (a.length : Int)) = False := eq_false hlt
      have HF := Lib.hid (join_fine HQ.out.1 HQ.out.2 hlab fun f hf => HN.out f (by rw [List.take_of_length_le (by omega)]; exact hf))
      generalize hg : wr.heap.size = g
      have Z0 := Lib.hid (alloc_at (n := g) HS.out (.cells #[.int .i64 2, .string ZZZ, .slice none 0 0, .slice none 0 0, .slice none 0 0] 32) hg.symm)
      have Z1 := Lib.hid (alloc_at (n := g + 1) Z0.out (.cells #[.string ZZ, .slice (some ⟨g, 0, none⟩) 1 1] 34) (by simp [hg]))
      have Z2 := Lib.hid (made0 (n := g + 1 + 1) Z1.out (by simp [hg]))
      clear HN HS Z0 Z1
      go_wp2_with (at_builtin; refine Held.out ?_)
      refine ⟨?_⟩
      refine appendF (by rfl) _ _ rfl _ 0 [] rfl Z2.out rfl (HXa.out _ _ Z2.out) HX1.out.1 (by omega) ?_
      intro v8 w8 h8
      have H8 := Lib.hid h8
      clear h8 Z2
      go_wp2_with (at_builtin; refine Held.out ?_)
      refine ⟨?_⟩
      refine appendF (by rfl) _ _ rfl _ (0 + a.length) ([] ++ xa) rfl H8.out rfl (HXb.out _ _ H8.out) HX1.out.2 (by omega) ?_
      intro v9 w9 h9
      rw [Nat.zero_add, List.nil_append] at h9
      have hx1 : ∀ u ∈ xa ++ xb, u.oneCell' = true := fun u hu => by
        rcases List.mem_append.1 hu with hu | hu
        · exact HX1.out.1 u hu
        · exact HX1.out.2 u hu
      obtain ⟨-, A9, c9, rfl, -⟩ := id h9.reads
      have H9 := Lib.hid h9
      have HX := Lib.hid hx1
      have HE := Lib.hid (err_zero HF.out)
      have HO1 : Hid (∀ x ∈ a ++ b ++ [oneF], okF x) := Lib.hid fun x hx => (List.mem_append.1 hx).elim (HOab.out x) fun h => by
        obtain rfl := List.mem_singleton.1 h
        exact one_okF
      have d0 := h9.two.cell 0 rfl
      have d1 := h9.two.cell 1 rfl
      clear h9 H8 hx1
      go_wp2_with fail
      refine wp_region_held_drew (S := fun W => W.cell? ⟨g + 1, 0, none⟩ = some (.string ZZ) ∧ W.cell? ⟨g + 1, 1, none⟩ = some (.slice (some ⟨g, 0, none⟩) 1 1)) (by kernel_rfl) ?_ (fun hHeld => ?_)
      · exact ⟨d0, d1⟩
      refine wpAnyH_take (i := 1) (oi := ⟨some 71, .move (.tmp 8), 22, "law.go:54", #[], none⟩) (v := ?_) rfl (by kernel_rfl) (by kernel_rfl) (by kernel_rfl) (fun _ _ _ h => h) (Or.inl ⟨by rfl, ?_⟩) (by assumption) ?_; rotate_left 1; · (intro w hSw; (try dsimp only at hSw); go_simp; all_goals with_reducible rfl)
      try simp only [Act.put, q3]
      refine wpAnyH_take (i := 3) (oi := ⟨some 73, .load 34 (.tmp 7), 34, "law.go:54", #[], none⟩) (v := ?_) rfl (by kernel_rfl) (by kernel_rfl) (by kernel_rfl) (fun _ _ _ h => h) (Or.inl ⟨by rfl, ?_⟩) (by assumption) ?_; rotate_left 1; · (intro w hSw; (try dsimp only at hSw); go_simp; all_goals with_reducible rfl)
      try simp only [Act.put, q3]
      refine wpAnyH_ready (rs := [0, 4]) (by kernel_rfl) (by simp) ?_
      refine AllReadyH.cons (o := ⟨some 70, .buildSlice 22 0 #[], 22, "law.go:54", #[], none⟩) rfl (fun K hK => ?_) (AllReadyH.cons (o := ⟨some 74, .buildSlice 22 1 #[(0, .tmp 73)], 22, "law.go:54", #[⟨3, .data⟩], none⟩) rfl (fun K hK => ?_) AllReadyH.nil)
      focus
        go_simp
        have F1 := (made0 H9.out rfl).drew
        refine hK.out _ _ ?_ (fun hHeld => ?_)
        · exact ⟨F1.drop.drop.cell 0 rfl, F1.drop.drop.cell 1 rfl⟩
        clear hK K
        try simp only [Act.put, q3]
        refine wpAnyH_ready (rs := [2, 4]) (by kernel_rfl) (by simp) ?_
        refine AllReadyH.cons (o := ⟨some 72, .call { callee := .builtin .append, args := #[.tmp 70, .tmp 71], argTypes := #[22, 22] }, 22, "law.go:54", #[⟨0, .data⟩, ⟨1, .data⟩], none⟩) rfl (fun K hK => ?_) (AllReadyH.cons (o := ⟨some 74, .buildSlice 22 1 #[(0, .tmp 73)], 22, "law.go:54", #[⟨3, .data⟩], none⟩) rfl (fun K hK => ?_) AllReadyH.nil)
        focus
          refine step_appendF (by rfl) _ _ (by rfl) _ 0 [] (by rfl) F1 (by rfl) F1.drop.reads HX.out (by omega) ?_
          intro v10 w10 h10
          refine hK.out _ _ ?_ (fun hHeld => ?_)
          · exact ⟨h10.drop.drop.cell 0 rfl, h10.drop.drop.cell 1 rfl⟩
          clear hK K
          try simp only [Act.put, q3]
          refine wpAnyH_ready (rs := [4]) (by kernel_rfl) (by simp) ?_
          refine AllReadyH.cons (o := ⟨some 74, .buildSlice 22 1 #[(0, .tmp 73)], 22, "law.go:54", #[⟨3, .data⟩], none⟩) rfl (fun K hK => ?_) AllReadyH.nil
          go_simp
          have F2 := alloc_at h10 (.cells #[.string ZZ, .slice (some ⟨g, 0, none⟩) 1 1] 34) rfl
          refine hK.out _ _ ?_ (fun hHeld => ?_)
          · exact ⟨F2.drop.drop.drop.cell 0 rfl, F2.drop.drop.drop.cell 1 rfl⟩
          clear hK K
          try simp only [Act.put, q3]
          refine wpAnyH_ready (rs := [5]) (by kernel_rfl) (by simp) ?_
          refine AllReadyH.cons (o := ⟨some 75, .call { callee := .builtin .append, args := #[.tmp 72, .tmp 74], argTypes := #[22, 22] }, 22, "law.go:54", #[⟨2, .data⟩, ⟨4, .data⟩, ⟨2, .chain⟩], none⟩) rfl (fun K hK => ?_) AllReadyH.nil
          refine step_appendF (by rfl) _ _ (by rfl) _ (0 + (a.length + b.length)) ([] ++ (xa ++ xb)) (by rfl) F2.two (by rfl) (blkReads2 F2 (n := 1) rfl (Nat.le_refl 1) (by decide) rfl) (by simp [Value.oneCell']) (by omega) ?_
          intro v12 w12 h12
          refine hK.out _ _ ?_ (fun hHeld => ?_)
          · exact ⟨h12.drop.drop.drop.cell 0 rfl, h12.drop.drop.drop.cell 1 rfl⟩
          clear hK K
          try simp only [Act.put, q3]
          refine wpAnyH_take (i := 6) (oi := ⟨some 9, .assign (.tmp 75), 22, "law.go:54", #[⟨5, .data⟩, ⟨5, .chain⟩, ⟨0, .phase⟩, ⟨1, .phase⟩, ⟨2, .phase⟩, ⟨3, .phase⟩, ⟨4, .phase⟩, ⟨5, .phase⟩], none⟩) (v := ?_) rfl (by kernel_rfl) (by kernel_rfl) (by kernel_rfl) (fun _ _ _ h => h) (Or.inl ⟨by rfl, ?_⟩) (by assumption) ?_; rotate_left 1; · (intro w hSw; (try dsimp only at hSw); go_simp; all_goals with_reducible rfl)
          try simp only [Act.put, q3]
          refine wpAnyH_done (by kernel_rfl) ?_ _
        rotate_left 1
        focus
          go_simp
          have F2 := (alloc_at (n := w9.heap.size + 1) (made0 H9.out rfl) (.cells #[.string ZZ, .slice (some ⟨g, 0, none⟩) 1 1] 34) (by simp)).drew
          refine hK.out _ _ ?_ (fun hHeld => ?_)
          · exact ⟨F2.drop.drop.drop.cell 0 rfl, F2.drop.drop.drop.cell 1 rfl⟩
          clear hK K
          try simp only [Act.put, q3]
          refine wpAnyH_ready (rs := [2]) (by kernel_rfl) (by simp) ?_
          refine AllReadyH.cons (o := ⟨some 72, .call { callee := .builtin .append, args := #[.tmp 70, .tmp 71], argTypes := #[22, 22] }, 22, "law.go:54", #[⟨0, .data⟩, ⟨1, .data⟩], none⟩) rfl (fun K hK => ?_) AllReadyH.nil
          refine step_appendF (by rfl) _ _ (by rfl) _ 0 [] (by rfl) F2.two (by rfl) F2.drop.drop.reads HX.out (by omega) ?_
          intro v10 w10 h10
          refine hK.out _ _ ?_ (fun hHeld => ?_)
          · exact ⟨h10.drop.drop.drop.cell 0 rfl, h10.drop.drop.drop.cell 1 rfl⟩
          clear hK K
          try simp only [Act.put, q3]
          refine wpAnyH_ready (rs := [5]) (by kernel_rfl) (by simp) ?_
          refine AllReadyH.cons (o := ⟨some 75, .call { callee := .builtin .append, args := #[.tmp 72, .tmp 74], argTypes := #[22, 22] }, 22, "law.go:54", #[⟨2, .data⟩, ⟨4, .data⟩, ⟨2, .chain⟩], none⟩) rfl (fun K hK => ?_) AllReadyH.nil
          refine step_appendF (by rfl) _ _ (by rfl) _ (0 + (a.length + b.length)) ([] ++ (xa ++ xb)) (by rfl) h10 (by rfl) (blkReads2 h10.two (n := 1) rfl (Nat.le_refl 1) (by decide) rfl) (by simp [Value.oneCell']) (by omega) ?_
          intro v12 w12 h12
          refine hK.out _ _ ?_ (fun hHeld => ?_)
          · exact ⟨h12.drop.drop.drop.cell 0 rfl, h12.drop.drop.drop.cell 1 rfl⟩
          clear hK K
          try simp only [Act.put, q3]
          refine wpAnyH_take (i := 6) (oi := ⟨some 9, .assign (.tmp 75), 22, "law.go:54", #[⟨5, .data⟩, ⟨5, .chain⟩, ⟨0, .phase⟩, ⟨1, .phase⟩, ⟨2, .phase⟩, ⟨3, .phase⟩, ⟨4, .phase⟩, ⟨5, .phase⟩], none⟩) (v := ?_) rfl (by kernel_rfl) (by kernel_rfl) (by kernel_rfl) (fun _ _ _ h => h) (Or.inl ⟨by rfl, ?_⟩) (by assumption) ?_; rotate_left 1; · (intro w hSw; (try dsimp only at hSw); go_simp; all_goals with_reducible rfl)
          try simp only [Act.put, q3]
          refine wpAnyH_done (by kernel_rfl) ?_ _
      rotate_left 2
      focus
        go_simp
        have F1 := (alloc_at H9.out (.cells #[.string ZZ, .slice (some ⟨g, 0, none⟩) 1 1] 34) rfl).drew
        refine hK.out _ _ ?_ (fun hHeld => ?_)
        · exact ⟨F1.drop.drop.cell 0 rfl, F1.drop.drop.cell 1 rfl⟩
        clear hK K
        try simp only [Act.put, q3]
        refine wpAnyH_ready (rs := [0]) (by kernel_rfl) (by simp) ?_
        refine AllReadyH.cons (o := ⟨some 70, .buildSlice 22 0 #[], 22, "law.go:54", #[], none⟩) rfl (fun K hK => ?_) AllReadyH.nil
        go_simp
        have F2 := (made0 (n := w9.heap.size + 1) (alloc_at H9.out (.cells #[.string ZZ, .slice (some ⟨g, 0, none⟩) 1 1] 34) rfl) (by simp)).drew
        refine hK.out _ _ ?_ (fun hHeld => ?_)
        · exact ⟨F2.drop.drop.drop.cell 0 rfl, F2.drop.drop.drop.cell 1 rfl⟩
        clear hK K
        try simp only [Act.put, q3]
        refine wpAnyH_ready (rs := [2]) (by kernel_rfl) (by simp) ?_
        refine AllReadyH.cons (o := ⟨some 72, .call { callee := .builtin .append, args := #[.tmp 70, .tmp 71], argTypes := #[22, 22] }, 22, "law.go:54", #[⟨0, .data⟩, ⟨1, .data⟩], none⟩) rfl (fun K hK => ?_) AllReadyH.nil
        refine step_appendF (by rfl) _ _ (by rfl) _ 0 [] (by rfl) F2 (by rfl) F2.drop.drop.reads HX.out (by omega) ?_
        intro v10 w10 h10
        refine hK.out _ _ ?_ (fun hHeld => ?_)
        · exact ⟨h10.drop.drop.drop.cell 0 rfl, h10.drop.drop.drop.cell 1 rfl⟩
        clear hK K
        try simp only [Act.put, q3]
        refine wpAnyH_ready (rs := [5]) (by kernel_rfl) (by simp) ?_
        refine AllReadyH.cons (o := ⟨some 75, .call { callee := .builtin .append, args := #[.tmp 72, .tmp 74], argTypes := #[22, 22] }, 22, "law.go:54", #[⟨2, .data⟩, ⟨4, .data⟩, ⟨2, .chain⟩], none⟩) rfl (fun K hK => ?_) AllReadyH.nil
        refine step_appendF (by rfl) _ _ (by rfl) _ (0 + (a.length + b.length)) ([] ++ (xa ++ xb)) (by rfl) h10 (by rfl) (blkReads2 h10.two (n := 1) rfl (Nat.le_refl 1) (by decide) rfl) (by simp [Value.oneCell']) (by omega) ?_
        intro v12 w12 h12
        refine hK.out _ _ ?_ (fun hHeld => ?_)
        · exact ⟨h12.drop.drop.drop.cell 0 rfl, h12.drop.drop.drop.cell 1 rfl⟩
        clear hK K
        try simp only [Act.put, q3]
        refine wpAnyH_take (i := 6) (oi := ⟨some 9, .assign (.tmp 75), 22, "law.go:54", #[⟨5, .data⟩, ⟨5, .chain⟩, ⟨0, .phase⟩, ⟨1, .phase⟩, ⟨2, .phase⟩, ⟨3, .phase⟩, ⟨4, .phase⟩, ⟨5, .phase⟩], none⟩) (v := ?_) rfl (by kernel_rfl) (by kernel_rfl) (by kernel_rfl) (fun _ _ _ h => h) (Or.inl ⟨by rfl, ?_⟩) (by assumption) ?_; rotate_left 1; · (intro w hSw; (try dsimp only at hSw); go_simp; all_goals with_reducible rfl)
        try simp only [Act.put, q3]
        refine wpAnyH_done (by kernel_rfl) ?_ _
      all_goals
        have H12 := Lib.hid h12.three
        have HE2 := HE
        clear h12 d0 d1
        go_wp2_with fail
        refine (shaped_row _ _ _ (a ++ b) H12.out (HRab.out _ _ H12.out) List.length_append.symm HOab.out).mono ?_
        rintro e w13 ⟨rfl, h13⟩
        rw [HE.out.1]
        have H13 := Lib.hid h13
        clear h13 H12
        go_wp2_with fail
        refine (check_row _ _ _ (a ++ b) H13.out (HRab.out _ _ H13.out) List.length_append.symm HOab.out).mono ?_
        rintro e w14 ⟨rfl, h14⟩
        rw [HF.out]
        have H14 := Lib.hid h14
        clear h14 H13
        go_wp2_with fail
        refine (find_row _ _ _ (a ++ b) ZZZ H14.out (HRab.out _ _ H14.out) List.length_append.symm).mono ?_
        rintro e w15 ⟨rfl, h15⟩
        have H15 := Lib.hid h15
        clear h15 H14
        generalize hy1 : findN (nameB ZZZ) (a ++ b) 0 = y1
        by_cases qy1 : y1 < 0
        case neg =>
          have r1 : (0 ≤ y1) = True := eq_true (by omega)
          have r2 : decide (0 ≤ y1) = true := decide_eq_true (by omega)
          go_wp2
          go_ret
          exact ⟨rfl, H15.out.below⟩
        have r1 : (0 ≤ y1) = False := eq_false (by omega)
        have r2 : decide (0 ≤ y1) = false := decide_eq_false (by omega)
        have HY1 := Lib.hid (by rw [hy1]; exact qy1 : findN (nameB ZZZ) (a ++ b) 0 < 0)
        clear hy1 qy1
        go_wp2_with fail
        refine (find_row _ _ _ (a ++ b) ZZ H15.out (HRab.out _ _ H15.out) List.length_append.symm).mono ?_
        rintro e w16 ⟨rfl, h16⟩
        have H16 := Lib.hid h16
        clear h16 H15
        generalize hy2 : findN (nameB ZZ) (a ++ b) 0 = y2
        by_cases qy2 : y2 < 0
        case neg =>
          have r3 : (0 ≤ y2) = True := eq_true (by omega)
          have r4 : decide (0 ≤ y2) = true := decide_eq_true (by omega)
          go_wp2
          go_ret
          exact ⟨rfl, H16.out.below⟩
        have r3 : (0 ≤ y2) = False := eq_false (by omega)
        have r4 : decide (0 ≤ y2) = false := decide_eq_false (by omega)
        clear hy2 qy2
        by_cases ql : a.length + b.length = 4096
        · have r5 : ((a.length : Int) + (b.length : Int) == 4096) = true := beq_iff_eq.2 (by omega)
          have r6 : decide ((a.length : Int) + (b.length : Int) = 4096) = true := decide_eq_true (by omega)
          have r7 : (a.length : Int) + (b.length : Int) = 4096 := by omega
          go_wp2
          go_ret
          exact ⟨rfl, H16.out.below⟩
        have r5 : ((a.length : Int) + (b.length : Int) == 4096) = false := beq_eq_false_iff_ne.2 (by omega)
        have r6 : decide ((a.length : Int) + (b.length : Int) = 4096) = false := decide_eq_false (by omega)
        have HM := Lib.hid (join_more (HE.out.1) (by rw [List.length_append]; omega) HY1.out)
        have HL : Hid ((0 + (a.length + b.length) + 1) = (a ++ b ++ [oneF]).length) := Lib.hid (by simp; omega)
        go_wp2_with fail
        refine (check_row _ _ _ (a ++ b ++ [oneF]) H16.out.two (more_reps (HRab.out _ _ H16.out) H16.out.drop.drop.drop.drop) HL.out HO1.out).mono ?_
        rintro e w17 ⟨rfl, h17⟩
        rw [HM.out]
        have H17 := Lib.hid h17
        clear h17 H16
        go_wp2
        go_ret
        exact ⟨rfl, H17.out.below⟩
end Go.Proofs.Ytbjddomocggjmaa.Fc
