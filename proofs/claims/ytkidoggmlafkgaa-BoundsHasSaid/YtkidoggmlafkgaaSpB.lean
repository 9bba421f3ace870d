/- Lists of ranges in memory: slices of structs of two cells. -/
import Derived.Test.YtkidoggmlafkgaaProg
import Derived.Test.YtkidoggmlafkgaaSep
import Derived.Test.YtkidoggmlafkgaaSpanM
import Derived.KernelRfl
import Derived.Deep.RegionHeld3
import Derived.Deep.QuietTactic
import Derived.BigQuiet
import Derived.BigRegion
namespace Go.Proofs.Ytkidoggmlafkgaa.Span
open Go.RowKit Go.Proofs.Ytkidoggmlafkgaa.Sep
variable {B : Nat} {w0 w : World} {R : HP}

def cell2 (r : Rg) : List Value := [.int .i64 r.1, .int .i64 r.2]
def cells2 (s : List Rg) : List Value := s.flatMap cell2
theorem cells2_cons (r : Rg) (s : List Rg) : cells2 (r :: s) = cell2 r ++ cells2 s := rfl
theorem cells2_append (s t : List Rg) : cells2 (s ++ t) = cells2 s ++ cells2 t := by simp [cells2]
theorem cells2_length (s : List Rg) : (cells2 s).length = s.length * 2 := by
  induction s with
  | nil => rfl
  | cons r s ih => rw [cells2_cons, List.length_append, ih, List.length_cons]; simp [cell2]; omega
theorem cells2_at (s : List Rg) (k : Nat) (r : Rg) (h : s[k]? = some r) (j : Nat) (u : Value) (hu : (cell2 r)[j]? = some u) : (cells2 s)[k * 2 + j]? = some u := by
  induction s generalizing k with
  | nil => simp at h
  | cons x s ih =>
    have hj : j < 2 := (List.getElem?_eq_some_iff.1 hu).1
    have hl : (cell2 x).length = 2 := rfl
    rw [cells2_cons]
    cases k with
    | zero =>
      simp only [List.getElem?_cons_zero, Option.some.injEq] at h
      subst h
      rw [Nat.zero_mul, Nat.zero_add, List.getElem?_append_left (by omega)]
      exact hu
    | succ k =>
      rw [List.getElem?_append_right (by omega), show (k + 1) * 2 + j - (cell2 x).length = k * 2 + j from by omega]
      exact ih k h
theorem one2 (s : List Rg) : ∀ u ∈ cells2 s, u.oneCell' = true := by
  intro u hu
  obtain ⟨r, _, hr⟩ := List.mem_flatMap.1 hu
  simp only [cell2, List.mem_cons, List.not_mem_nil, or_false] at hr
  rcases hr with rfl | rfl <;> rfl
abbrev Row2 (v : Value) (s : List Rg) : HP := RowV 32 2 v s.length (cells2 s)
/-- What a slice of ranges reads as. -/
def R2 (W : World) (v : Value) (s : List Rg) : Prop :=
  ∃ A c, v = .slice A s.length c ∧ s.length ≤ c ∧ c ≤ maxLen ∧ ∀ k r, s[k]? = some r → ∃ g off, A = some ⟨g, off, none⟩ ∧ W.cell? ⟨g, off + k * 2, none⟩ = some (.int .i64 r.1) ∧ W.cell? ⟨g, off + k * 2 + 1, none⟩ = some (.int .i64 r.2)
theorem cell_of_below {w w' : World} (hb : Below w.heap.size w w') {a : Addr} {v : Value} (h : w.cell? a = some v) : w'.cell? a = some v :=
  (hb.cell (World.block_lt_of_cell? w _ h)).trans h
theorem R2.below {w' : World} {v : Value} {s : List Rg} (h : R2 w v s) (hb : Below w.heap.size w w') : R2 w' v s := by
  obtain ⟨A, c, h1, h2, h3, h4⟩ := h
  refine ⟨A, c, h1, h2, h3, fun k r hr => ?_⟩
  obtain ⟨g, off, h5, h6, h7⟩ := h4 k r hr
  exact ⟨g, off, h5, cell_of_below hb h6, cell_of_below hb h7⟩
theorem St.r2 {v : Value} {s : List Rg} (h : St B w0 w (Row2 v s • R)) : R2 w v s := by
  obtain ⟨_, A, c, rfl, hc, hm, hcell⟩ := h.reads
  refine ⟨A, c, rfl, hc, hm, fun k r hr => ?_⟩
  obtain ⟨ad, rfl, h1⟩ := hcell _ _ (cells2_at s k r hr 0 _ rfl)
  obtain ⟨_, e, h2⟩ := hcell _ _ (cells2_at s k r hr 1 _ rfl)
  obtain rfl := Option.some.inj e
  rcases h.rowForm with ⟨e, _⟩ | ⟨g, cap, cur, lo, hi, e, _⟩
  · simp at e
  · simp only [Value.slice.injEq] at e
    obtain ⟨e, -, -⟩ := e
    obtain rfl := Option.some.inj e
    rw [add_plain] at h1 h2
    refine ⟨g, 0, rfl, ?_, ?_⟩
    · rw [Nat.zero_add]; exact h1
    · rw [Nat.zero_add]; exact h2
theorem add_at (g off n : Nat) : (⟨g, off, none⟩ : Addr).add n = ⟨g, off + n, none⟩ := by unfold Addr.add; split <;> simp_all
theorem R2.readsV {v : Value} {s : List Rg} (h : R2 w v s) : ReadsV 2 w v s.length (cells2 s) := by
  obtain ⟨A, c, rfl, hc, hm, hat⟩ := h
  refine ⟨cells2_length s, A, c, rfl, hc, hm, fun j u hu => ?_⟩
  have hj : j < s.length * 2 := by have := (List.getElem?_eq_some_iff.1 hu).1; rwa [cells2_length] at this
  have hk : j / 2 < s.length := by omega
  obtain ⟨g, off, rfl, h1, h2⟩ := hat (j / 2) _ (List.getElem?_eq_getElem hk)
  refine ⟨_, rfl, ?_⟩
  rw [add_at]
  rcases Nat.mod_two_eq_zero_or_one j with hm2 | hm2
  · have e := cells2_at s (j / 2) _ (List.getElem?_eq_getElem hk) 0 _ rfl
    rw [show j / 2 * 2 + 0 = j from by omega, hu] at e
    rw [show off + j = off + j / 2 * 2 from by omega, h1]
    exact e.symm
  · have e := cells2_at s (j / 2) _ (List.getElem?_eq_getElem hk) 1 _ rfl
    rw [show j / 2 * 2 + 1 = j from by omega, hu] at e
    rw [show off + j = off + j / 2 * 2 + 1 from by omega, h2]
    exact e.symm
theorem info2 : (Try.prog.info? 32).map (fun i => (i.zero, i.size, i.bytes)) = some (some (.agg #[.int .i64 0, .int .i64 0]), 2, 16) := by kernel_rfl
theorem info_parts {P : Program} {t : TypeId} {z : Value} {n b : Nat} (h : (P.info? t).map (fun i => (i.zero, i.size, i.bytes)) = some (some z, n, b)) : ∃ i, P.info? t = some i ∧ i.zero = some z ∧ i.size = n ∧ i.bytes = b := by
  rw [Option.map_eq_some_iff] at h
  obtain ⟨i, h1, h2⟩ := h
  simp only [Prod.mk.injEq] at h2
  exact ⟨i, h1, h2.1, h2.2.1, h2.2.2⟩
theorem blkReadsN {g : Nat} {cs : Array Value} {e : TypeId} {fr : Nat × Nat} (h : St B w0 w (Blk g (.cells cs e fr) • R)) {n c size : Nat} {xs : List Value} (hs : cs.size = n * size) (hnc : n ≤ c) (hc : c ≤ maxLen) (hx : xs = cs.toList) :
    ReadsV size w (.slice (some ⟨g, 0, none⟩) n c) n xs := by
  subst hx
  refine ⟨by simpa using hs, _, _, rfl, hnc, hc, fun j u hu => ⟨_, rfl, ?_⟩⟩
  rw [add_plain]
  exact h.cell j (by simpa using hu)
/-- append of ranges. -/
theorem append2 {ops : Array Oper} {rest : List Oper} {o : Oper} {a : Act} {Q : Exit → Act → World → Prop} (hgd : o.guard = none) (s x : Operand)
    (ho : o.op = .call { callee := .builtin .append, args := #[s, x], argTypes := #[22, 22] }) (v src : Value) (l news : List Rg)
    (hs : a.eval s = v) (h : St B w0 w (Row2 v l • R)) (hx : a.eval x = src) (hr : ReadsV 2 w src news.length (cells2 news)) (h63 : l.length + news.length ≤ 1000000000000)
    (hK : ∀ v' w', St B w0 w' (Row2 v' (l ++ news) • R) → wpList Try.prog ops Q rest (a.put o.dst v') w') : wpList Try.prog ops Q (o :: rest) a w := by
  obtain ⟨i0, hi, hz0, hz1, hz2⟩ := info_parts info2
  refine St.wpList_append hgd s x 22 ho i0 (.agg #[.int .i64 0, .int .i64 0]) 16 Try.underlying22 hi hz0 hz1 hz2 rfl (by decide) hs h hx hr (one2 _) (by simp only [maxLen]; omega) (by omega) fun v' w' h' => hK v' w' ?_
  simpa [Row2, cells2_append] using h'

set_option maxHeartbeats 800000 in
/-- Are two lists of ranges the same? -/
theorem rsame_calls (va vb : Value) (s t : List Rg) (h : St B w0 w R) (ha : ∀ W, St B w0 W R → R2 W va s) (hb : ∀ W, St B w0 W R → R2 W vb t) :
    Calls Try.prog 35 #[va, vb] w fun e w' => e = .returned (.bool (decide (s = t))) ∧ St B w0 w' R := by
  have H := Lib.hid (And.intro h (And.intro ha hb))
  obtain ⟨A, c, rfl, hc, hcm, -⟩ := ha w h
  obtain ⟨A', c', rfl, hc', hcm', -⟩ := hb w h
  simp only [maxLen] at hcm hcm'
  have hl : s.length ≤ 9223372036854775807 := by omega
  have hl' : t.length ≤ 9223372036854775807 := by omega
  clear h ha hb hc hcm hc' hcm'
  by_cases hlen : s.length = t.length
  · have hle : ((s.length : Int) != t.length) = false := by rw [hlen]; simp
    go_enter Try.func35, Try.ntmps35
    go_wp2
    go_loopw [5] (fun i wr => ∃ k : Nat, k ≤ s.length ∧ i = .int .i64 k ∧ s.take k = t.take k ∧ Hid (St B w0 wr R)) (fun i _ => s.length - (intOf i).toNat)
    case atStart => exact ⟨0, Nat.zero_le _, rfl, rfl, Lib.hid H.out.1⟩
    case round =>
      obtain ⟨k, hk, rfl, heq, HS⟩ := hrel
      by_cases hlt : k < s.length
      · have hlt' : k < t.length := by omega
        obtain ⟨r, hr⟩ : ∃ r, s[k]? = some r := ⟨_, List.getElem?_eq_getElem hlt⟩
        obtain ⟨u, hu⟩ : ∃ u, t[k]? = some u := ⟨_, List.getElem?_eq_getElem hlt'⟩
        obtain ⟨_, _, e, _, _, hat⟩ := id (H.out.2.1 wr HS.out)
        obtain ⟨g, off, e2, d0, d1⟩ := hat k r hr
        simp only [Value.slice.injEq] at e
        obtain ⟨rfl, -, rfl⟩ := e
        subst e2
        obtain ⟨_, _, e, _, _, hat'⟩ := id (H.out.2.2 wr HS.out)
        obtain ⟨g', off', e2, d0', d1'⟩ := hat' k u hu
        simp only [Value.slice.injEq] at e
        obtain ⟨rfl, -, rfl⟩ := e
        subst e2
        have HQ := Lib.hid (And.intro hr (And.intro hu heq))
        clear hat hat' hr hu heq
        have hneq : ¬ r = u → ¬ s = t := by
          intro hn e
          subst e
          rw [HQ.out.1] at *
          exact hn (Option.some.inj HQ.out.2.1)
        have HN := Lib.hid hneq
        clear hneq
        by_cases h0 : r.1 = u.1
        · have b0 : (r.1 != u.1) = false := by simpa using h0
          by_cases h1 : r.2 = u.2
          · have b1 : (r.2 != u.2) = false := by simpa using h1
            have HE : Hid (s.take (k + 1) = t.take (k + 1)) := Lib.hid (by
              obtain ⟨hr, hu, heq⟩ := HQ.out
              rw [List.take_add_one, List.take_add_one, hr, hu, heq, Prod.ext h0 h1])
            clear h0 h1
            go_wp2_with fail
            go_quiet (fail)
            go_wp2_with fail
            exact ⟨⟨k + 1, by omega, by go_num, HE.out, Lib.hid (HS.out.drewN _)⟩, by simp only [intOf]; omega⟩
          · have b1 : (r.2 != u.2) = true := by simpa using h1
            have HF : Hid (decide (s = t) = false) := Lib.hid (decide_eq_false (HN.out fun e => h1 (by rw [e])))
            clear h0 h1
            go_wp2_with fail
            go_quiet (fail)
            go_wp2_with fail
            go_ret
            rw [HF.out]
            exact ⟨rfl, HS.out.drewN _⟩
        · have b0 : (r.1 != u.1) = true := by simpa using h0
          have HF : Hid (decide (s = t) = false) := Lib.hid (decide_eq_false (HN.out fun e => h0 (by rw [e])))
          clear h0
          go_wp2_with fail
          go_quiet (fail)
          go_wp2_with fail
          go_ret
          rw [HF.out]
          exact ⟨rfl, HS.out.drewN _⟩
      · have HF : Hid (decide (s = t) = true) := Lib.hid (decide_eq_true (by
          rw [List.take_of_length_le (by omega), List.take_of_length_le (by omega)] at heq
          exact heq))
        clear heq
        go_wp2
        go_ret
        rw [HF.out]
        exact ⟨rfl, HS.out⟩
  · have hle : ((s.length : Int) != t.length) = true := by simp; omega
    have HF : Hid (decide (s = t) = false) := Lib.hid (decide_eq_false fun e => hlen (by rw [e]))
    go_enter Try.func35, Try.ntmps35
    go_wp2
    go_ret
    rw [HF.out]
    exact ⟨rfl, H.out.1⟩
theorem same_calls (va vb : Value) (s t : List Rg) (h : St B w0 w R) (ha : ∀ W, St B w0 W R → R2 W va s) (hb : ∀ W, St B w0 W R → R2 W vb t) :
    Calls Try.prog 16 #[va, vb] w fun e w' => e = .returned (.bool (decide (s = t))) ∧ St B w0 w' R := by
  have H := Lib.hid (And.intro h (And.intro ha hb))
  clear h ha hb
  go_enter Try.func16, Try.ntmps16
  go_wp2_with fail
  refine (rsame_calls va vb s t H.out.1 H.out.2.1 H.out.2.2).mono ?_
  rintro e w1 ⟨rfl, h2⟩
  have H2 := Lib.hid h2
  clear h2
  go_wp2
  go_ret
  exact ⟨rfl, H2.out⟩
theorem whole_calls (h : St B w0 w R) : Calls Try.prog 27 #[] w fun e w' => ∃ v, e = .returned v ∧ St B w0 w' (Row2 v [(minI, maxI)] • R) := by
  have H := Lib.hid h
  clear h
  go_enter Try.func27, Try.ntmps27
  go_wp2
  go_ret
  exact ⟨_, rfl, (H.out.alloc _).blkRow (by decide) (by decide) rfl (.inr (Nat.le_refl _)) rfl⟩
end Go.Proofs.Ytkidoggmlafkgaa.Span
