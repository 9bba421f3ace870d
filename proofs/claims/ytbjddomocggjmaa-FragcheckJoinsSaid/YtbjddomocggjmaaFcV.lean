/- A set of names as a map[string]bool: what it holds, its laws. -/
import Derived.Test.YtbjddomocggjmaaFcO
import Derived.Maps.OwnSet
import Derived.Maps.OwnOps
namespace Go.Proofs.Ytbjddomocggjmaa.Fc
open Go.RowKit Go.Maps Go.ChangeMaps Go.MapKept Go.Proofs.Ytbjddomocggjmaa.Sep
variable {B b : Nat} {w0 w : World} {R : HP} {ks : List (List UInt8)}

def setD (ks : List (List UInt8)) : DataW Nat := Maps.setOf (.lit (.bool true)) (ks.map Lit.string)
theorem key_lit (ks : List (List UInt8)) : ∀ x ∈ ks.map Lit.string, WideAt.IsKeyLit x := by
  intro x hx
  obtain ⟨k, _, rfl⟩ := List.mem_map.1 hx
  trivial
theorem setD_snoc (ks : List (List UInt8)) (k : List UInt8) : setD (ks ++ [k]) = (setD ks).put (.string k) (.lit (.bool true)) := by
  unfold setD
  rw [List.map_append, List.map_cons, List.map_nil, Maps.setOf_snoc]
theorem setD_tidy (ks : List (List UInt8)) : Maps.Tidy (setD ks) := Maps.tidy_setOf _ _ (key_lit ks)
theorem setD_at_rev (k : List UInt8) : ∀ r : List (List UInt8), (setD r.reverse).atKey (.string k) (.lit (.bool false)) = .lit (.bool (r.contains k))
  | [] => rfl
  | x :: r => by
    rw [List.reverse_cons, setD_snoc]
    by_cases e : k = x
    · subst e
      rw [Maps.atKey_put_same (setD_tidy _).isMap (by trivial)]
      simp
    · rw [Maps.atKey_put_other (fun h => e (by simpa using h)), setD_at_rev k r]
      simp [e]
theorem setD_at (ks : List (List UInt8)) (k : List UInt8) : (setD ks).atKey (.string k) (.lit (.bool false)) = .lit (.bool (ks.contains k)) := by
  have h := setD_at_rev k ks.reverse
  rw [List.reverse_reverse] at h
  rw [h]
  congr 2
  simp
/-- No two alike. -/
def distinctB : List (List UInt8) → Bool
  | [] => true
  | x :: r => !r.contains x && distinctB r
theorem addKey_le (L : List Lit) (xs : List Lit) : (xs.foldl Maps.addKey L).length ≤ L.length + xs.length := by
  induction xs generalizing L with
  | nil => simp
  | cons x r ih =>
    rw [List.foldl_cons]
    refine Nat.le_trans (ih _) ?_
    unfold Maps.addKey
    split
    · simp only [List.length_cons]; omega
    · simp only [List.length_append, List.length_cons, List.length_nil]; omega
theorem same_string (a c : List UInt8) : (Lit.string a).sameKey (.string c) = decide (a = c) := by
  by_cases h : a = c
  · subst h
    rw [decide_eq_true rfl]
    exact WideAt.sameKey_self (by trivial)
  · rw [decide_eq_false h]
    exact Maps.sameKey_ne (fun e => h (by simpa using e))
theorem addKey_iff : ∀ (xs : List (List UInt8)) (L : List (List UInt8)), decide (((xs.map Lit.string).foldl Maps.addKey (L.map Lit.string)).length < L.length + xs.length) = !(distinctB xs && xs.all fun x => !L.contains x)
  | [], L => by simp [distinctB]
  | x :: r, L => by
    rw [List.map_cons, List.foldl_cons]
    have hany : (L.map Lit.string).any (fun y => y.sameKey (.string x)) = L.contains x := by
      rw [List.any_map, Bool.eq_iff_iff]
      simp [same_string]
    unfold Maps.addKey
    rw [hany]
    cases hc : L.contains x with
    | true =>
      rw [if_pos rfl]
      have h := addKey_le (L.map Lit.string) (r.map Lit.string)
      simp only [List.length_map] at h
      have h2 : decide ((List.foldl Maps.addKey (L.map Lit.string) (r.map Lit.string)).length < L.length + (x :: r).length) = true := decide_eq_true (by simp; omega)
      unfold Maps.addKey at h2
      rw [h2, List.all_cons, hc]
      simp
    | false =>
      rw [if_neg (by simp)]
      have e : L.map Lit.string ++ [Lit.string x] = (L ++ [x]).map Lit.string := by simp
      have ih := addKey_iff r (L ++ [x])
      unfold Maps.addKey at ih
      rw [e]
      have e2 : L.length + (x :: r).length = (L ++ [x]).length + r.length := by simp; omega
      rw [e2, ih]
      congr 1
      rw [List.all_cons, hc, distinctB, Bool.eq_iff_iff]
      simp only [Bool.and_eq_true, List.all_eq_true, Bool.not_eq_true', List.contains_eq_mem, decide_eq_false_iff_not, List.mem_append, List.mem_singleton, not_or, Bool.not_false, true_and]
      constructor
      · rintro ⟨h1, h2⟩
        exact ⟨⟨fun hx => (h2 x hx).2 rfl, h1⟩, fun y hy => (h2 y hy).1⟩
      · rintro ⟨⟨h0, h1⟩, h2⟩
        exact ⟨h1, fun y hy => ⟨h2 y hy, fun e => h0 (e ▸ hy)⟩⟩
theorem setD_size (ks : List (List UInt8)) : decide (Maps.size (setD ks) < ks.length) = !distinctB ks := by
  have h := addKey_iff ks []
  have e : Maps.size (setD ks) = ((ks.map Lit.string).foldl Maps.addKey []).length := Maps.size_setOf _ _ (key_lit ks)
  have e3 : (ks.all fun x => !([] : List (List UInt8)).contains x) = true := List.all_eq_true.2 fun _ _ => rfl
  rw [e3, Bool.and_true] at h
  rw [e, ← h]
  simp

theorem str_keyed : Maps.Keyed Try.prog 9 := string_keyed Try.underlying9
theorem zero_bool (w : World) : (zeroValue 4).run Try.prog w = .ok (.bool false) w := by kernel_rfl
theorem elem_bool_inv {P : Program} {e : TypeId} (he : P.underlying e = some .bool) {v : Value} {z : DataW Nat × List MemPlace} (h : plainElem P e v = some z) : ∃ x, v = .bool x ∧ z = (.lit (.bool x), []) := by
  unfold plainElem at h
  rw [he] at h
  cases v <;> simp at h
  exact ⟨_, rfl, h.symm⟩
/-- Block b is a map that holds these names. -/
def SetP (b : Nat) (ks : List (List UInt8)) : HP where
  on w F := F b ∧ w.ownsMap Try.prog 9 (plainElem Try.prog 4) b ks.length (setD ks)
  loc := fun ⟨h1, h2⟩ h => ⟨h1, by obtain ⟨es, clock, hb, r⟩ := h2; exact ⟨es, clock, (h _ h1).trans hb, r⟩⟩
  up := fun ⟨h1, h2⟩ h => ⟨h _ h1, h2⟩
theorem st_owns (h : St B w0 w (SetP b ks • R)) : w.ownsMap Try.prog 9 (plainElem Try.prog 4) b ks.length (setD ks) := by
  obtain ⟨_, _, F, hF, F1, F2, h1, h2, hd, ⟨_, ha⟩, hr⟩ := h
  exact ha
theorem st_made (h : St B w0 w R) : St B w0 (w.alloc (.map #[] 0)) (SetP w.heap.size [] • R) :=
  (h.alloc (.map #[] 0)).mapFirst fun w' F h => ⟨h.1, ⟨#[], 0, h.2, ⟨by simp, stamped_empty 0, by simp⟩, Nat.le_refl _, rfl⟩⟩
theorem st_look (h : St B w0 w (SetP b ks • R)) (s : ByteArray) (hs : s.size ≤ maxLen) : (Instr.lookup 75 (.map (some b)) (.string s) false).run Try.prog w = .ok (.bool (ks.contains s.data.toList)) w := by
  obtain ⟨v, ps, h1, h2⟩ := (st_owns h).lookup str_keyed Try.underlying75 (zero_bool w) (plainElem_bool Try.underlying4 false) (WideMaps.keyOf_string_mk Try.underlying9 hs)
  obtain ⟨x, rfl, hx⟩ := elem_bool_inv Try.underlying4 h2
  rw [setD_at] at hx
  simp only [Prod.mk.injEq, DataW.lit.injEq, Lit.bool.injEq] at hx
  rw [hx.1]
  exact h1
theorem st_put (h : St B w0 w (SetP b ks • R)) (s : ByteArray) (hs : s.size ≤ maxLen) (hn : ks.length < maxLen) :
    ∃ w', (Instr.mapUpdate 75 (.map (some b)) (.string s) (.bool true)).run Try.prog w = .ok () w' ∧ St B w0 w' (SetP b (ks ++ [s.data.toList]) • R) := by
  obtain ⟨w', h1, h2, h3⟩ := (st_owns h).store str_keyed Try.underlying75 hn (WideMaps.keyOf_string_mk Try.underlying9 hs) (plainElem_bool Try.underlying4 true)
  refine ⟨w', h1, ?_⟩
  rw [← setD_snoc] at h2
  obtain ⟨es, clock, es', clock', hb, rfl⟩ := h3
  refine h.step (by simp [setBlock]) rfl rfl rfl fun F hF ⟨hf, _⟩ => ⟨fun k hk hnk => heap_setBlock_other hb _ (fun e => hnk (e ▸ hf)), F, fun b hb => .inl hb, hf, ?_⟩
  have e : (ks ++ [s.data.toList]).length = ks.length + 1 := by simp
  rw [e]
  exact h2
/-- 'names[k] = true' at the operation. -/
theorem wpList_put {ops : Array Oper} {rest : List Oper} {o : Oper} {a : Act} {Q : Exit → Act → World → Prop} (hg : o.guard = none) (m x v : Operand) (hop : o.op = Op.mapUpdate 75 m x v)
    (hm : a.eval m = .map (some b)) (s : ByteArray) (hx : a.eval x = .string s) (hv : a.eval v = .bool true) (h : St B w0 w (SetP b ks • R)) (hs : s.size ≤ maxLen) (hn : ks.length < maxLen)
    (hK : ∀ w', St B w0 w' (SetP b (ks ++ [s.data.toList]) • R) → wpList Try.prog ops Q rest (a.put o.dst undef) w') : wpList Try.prog ops Q (o :: rest) a w := by
  refine wpList_plain hg fun K' hK' => ?_
  obtain ⟨w', hrun, r⟩ := st_put h s hs hn
  unfold Oper.wp
  simp [execOp, hop, hm, hx, hv, hrun, Result.andThen]
  exact hK' _ _ (hK w' r)
end Go.Proofs.Ytbjddomocggjmaa.Fc
