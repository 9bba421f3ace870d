/- append and Clone at the schemas' types: what is made, and what it reads as. -/
import Derived.Test.YtbjddomocggjmaaKF
namespace Go.Proofs.Ytbjddomocggjmaa.Sc
open Go.RowKit Go.ChangeShapes Go.WideShapes Go.Proofs.Ytbjddomocggjmaa.Sep
open Go.Proofs.YtbjddomocggjmaaW.PrintWords
variable {B : Nat} {w0 w w1 : World} {R : HP}
/-- What is so in every world in which what is owned, and what lies below the base, is as it is here. -/
def Vw (w0 : World) (B : Nat) (p : World → Prop) : HP where
  on w F := ∀ wv, Below B w0 wv → (∀ b, F b → wv.heap[b]? = w.heap[b]?) → p wv
  loc := fun h hw wv hb hv => h wv hb fun b hF => (hv b hF).trans (hw b hF)
  up := fun h hG wv hb hv => h wv hb fun b hF => hv b (hG b hF)
theorem Vw.get {p : World → Prop} (h : St B w0 w (Vw w0 B p • R)) : p w := by
  obtain ⟨hb, _, F, _, F1, F2, h1, _, _, ha, _⟩ := h
  exact ha w hb fun _ _ => rfl
theorem Vw.base {p : World → Prop} (h : St B w0 w R) (hp : ∀ wv, Below B w0 wv → p wv) : St B w0 w (Vw w0 B p • R) :=
  (h.pad.swap).mapFirst fun _ _ _ wv hb _ => hp wv hb
theorem Vw.map {p q : World → Prop} (h : St B w0 w (Vw w0 B p • R)) (hpq : ∀ wv, Below B w0 wv → p wv → q wv) : St B w0 w (Vw w0 B q • R) :=
  h.mapFirst fun _ _ hv wv hb hF => hpq wv hb (hv wv hb hF)
theorem Vw.join {p q : World → Prop} (h : St B w0 w (Vw w0 B p • (Vw w0 B q • R))) : St B w0 w (Vw w0 B (fun W => p W ∧ q W) • R) := by
  refine (h.assoc').mapFirst fun w F hh wv hb hv => ?_
  obtain ⟨F1, F2, h1, h2, -, hp, hq⟩ := hh
  exact ⟨hp wv hb fun b hF => hv b (h1 b hF), hq wv hb fun b hF => hv b (h2 b hF)⟩
/-- A row, and what its elements lead to, as something that is read. -/
theorem Vw.row {α : Type} {d : Kd α} {e : TypeId} {v : Value} {n : Nat} {l : List α} {xs : List Value} (hz : 0 < d.sz) (hn : n = l.length) (h : St B w0 w (RowV e d.sz v n xs • (Vw w0 B (fun W => Reps (d.K W) d.sz l xs) • R))) :
    St B w0 w (Vw w0 B (fun W => ∃ A c, v = .slice A l.length c ∧ l.length ≤ c ∧ c ≤ maxLen ∧ d.C W A l.length l) • R) := by
  subst hn
  refine (h.assoc').mapFirst fun w F hh wv hb hv => ?_
  obtain ⟨F1, F2, h1, h2, -, hr, hp⟩ := hh
  have hR := hp wv hb fun b hF => hv b (h2 b hF)
  have hrow : RowOn e d.sz v l.length xs wv F1 := (RowV e d.sz v l.length xs).loc hr fun b hF => hv b (h1 b hF)
  obtain ⟨q1, A, c, rfl, q2, q3, q4⟩ := hrow.reads
  refine ⟨A, c, rfl, q2, q3, rfl, by simp only [maxLen] at q3; omega, fun h0 => ?_⟩
  have hx0 : 0 < xs.length := by rw [q1]; exact Nat.mul_pos h0 hz
  obtain ⟨ad, rfl, -⟩ := q4 0 _ (List.getElem?_eq_getElem hx0)
  refine ⟨ad, rfl, fun j p hp => ⟨_, ?_, hR.2 j p hp, fun i u hu => ?_⟩⟩
  · have hj := (List.getElem?_eq_some_iff.1 hp).1
    have : j * d.sz + d.sz ≤ xs.length := by rw [q1, ← Nat.succ_mul]; exact Nat.mul_le_mul_right _ hj
    rw [List.length_take, List.length_drop]
    omega
  · rw [List.getElem?_take] at hu
    split at hu
    · rw [List.getElem?_drop] at hu
      obtain ⟨ad', e, h5⟩ := q4 _ u hu
      cases e
      exact h5
    · cases hu
/-- What is read in the world at hand stays so wherever the base is that world. -/
theorem c_rows {α : Type} {d : Kd α} {A : Option Addr} {l : List α} (h : d.C w A l.length l) : ∃ xs, Reps (d.K w) d.sz l xs ∧ xs.length = l.length * d.sz ∧ ∀ j u, xs[j]? = some u → ∃ ad, A = some ad ∧ w.cell? (ad.add j) = some u := by
  cases l with
  | nil => exact ⟨[], Reps.none _ _, by simp, fun j u hu => by simp at hu⟩
  | cons a l =>
    obtain ⟨ad, rfl, -⟩ := h.2.2 (by simp)
    obtain ⟨xs, h1, h2⟩ := ReadsRow.inner_ h
    exact ⟨xs, h1, h1.1, fun j u hu => ⟨ad, rfl, h2 j u hu⟩⟩
theorem reps_one {α : Type} {d : Kd α} {l : List α} {xs : List Value} (h : Reps (d.K w) d.sz l xs) : ∀ u ∈ xs, u.oneCell' = true := by
  intro u hu
  obtain ⟨j, hj⟩ := List.getElem?_of_mem hu
  have hjl := (List.getElem?_eq_some_iff.1 hj).1
  rw [h.1] at hjl
  have hz : 0 < d.sz := Nat.pos_of_ne_zero fun h0 => by rw [h0, Nat.mul_zero] at hjl; omega
  have hq : j / d.sz < l.length := Nat.div_lt_of_lt_mul (by rwa [Nat.mul_comm] at hjl)
  have hk := h.2 (j / d.sz) _ (List.getElem?_eq_getElem hq)
  refine d.K_one hk u (List.mem_of_getElem? (i := j % d.sz) ?_)
  rw [List.getElem?_take, if_pos (Nat.mod_lt _ hz), List.getElem?_drop, Nat.mul_comm, Nat.div_add_mod]
  exact hj
/-- It holds a goal back. -/
structure Held (p : Prop) : Prop where
  out : p
theorem info_parts {P : Program} {t : TypeId} {z : Value} {n b : Nat} (h : (P.info? t).map (fun i => (i.zero, i.size, i.bytes)) = some (some z, n, b)) : ∃ i, P.info? t = some i ∧ i.zero = some z ∧ i.size = n ∧ i.bytes = b := by
  rw [Option.map_eq_some_iff] at h
  obtain ⟨i, h1, h2⟩ := h
  simp only [Prod.mk.injEq] at h2
  exact ⟨i, h1, h2.1, h2.2.1, h2.2.2⟩
section
variable {P : Program} {e : TypeId} {size n : Nat} {v : Value} {xs : List Value}
theorem run_append2 (t ty : TypeId) (i : TypeInfo) (z : Value) (bytes : Nat) (ht : P.underlying t = some (.slice e)) (hi : P.info? e = some i) (hz : i.zero = some z)
    (hsize : i.size = size) (hby : i.bytes = bytes) (hzs : z.cells.size = size) (hsz : 0 < size)
    (h : St B w0 w (RowV e size v n xs • R)) {SA : Option Addr} {m c : Nat} {news : List Value} (hl0 : news.length = m * size) (hcell : ∀ j u, news[j]? = some u → ∃ ad, SA = some ad ∧ w.cell? (ad.add j) = some u) (h1 : ∀ u ∈ news, u.oneCell' = true)
    (h63 : n + m ≤ maxLen) (hbytes : (n + m) * bytes ≤ 140737488355328) :
    ∃ v' w', (Builtin.append_ #[t, t] ty #[v, .slice SA m c]).run P w = .ok v' w' ∧ St B w0 w' (RowV e size v' (n + m) (xs ++ news) • R) := by
  subst hsize
  subst hby
  have hl := hl0
  have hxl := h.rowLen
  have h63' : n + m ≤ 9223372036854775807 := by simp only [maxLen] at h63; omega
  by_cases hm : m = 0
  · subst hm
    have hnews : news = [] := List.eq_nil_of_length_eq_zero (by omega)
    subst hnews
    refine ⟨v, w, ?_, by simpa using h⟩
    rcases h.rowForm with ⟨rfl, rfl, rfl⟩ | ⟨g, cap, cur, lo, hi', rfl, hf, hnc, hc, hs, hx, hb⟩
    · exact run_append_empty w t ty e i ht hi none (by simp) 0 0 (Nat.le_refl _) SA c
    · exact run_append_empty w t ty e i ht hi _ (by rintro a ⟨⟩; exact ⟨g, rfl⟩) n cap hnc SA c
  · have hpos : 0 < news.length := by rw [hl]; exact Nat.mul_pos (by omega) hsz
    obtain ⟨ad, rfl, -⟩ := hcell 0 news[0] (by simp [List.getElem?_eq_getElem hpos])
    have hnews : ∀ j u, news[j]? = some u → w.cell? (ad.add j) = some u := fun j u hu => by
      obtain ⟨ad', e', h'⟩ := hcell j u hu
      cases e'
      exact h'
    have grown : ∀ (old : Nat), old < n + m → St B w0 w R →
        St B w0 (w.drew.alloc (.cells (xs.toArray ++ news.toArray ++ Builtin.zeroCells z.cells (grownCap w (n + m) old e - (n + m))) e))
          (RowV e i.size (.slice (some ⟨w.heap.size, 0, none⟩) (n + m) (grownCap w (n + m) old e)) (n + m) (xs ++ news) • R) := by
      intro old ho hR
      have hge := grownCap_ge w (n + m) old e
      have hcm : grownCap w (n + m) old e ≤ maxLen := grownCap_le_maxLen w (n + m) old e h63
      have h2 := hR.drew.alloc (.cells (xs.toArray ++ news.toArray ++ Builtin.zeroCells z.cells (grownCap w (n + m) old e - (n + m))) e)
      refine St.blkRow h2 hge hcm ?_ (.inr (Nat.le_refl _)) ?_
      · simp only [Array.size_append, List.size_toArray, size_zeroCells, hzs, hxl, hl, ← Nat.add_mul]
        congr 1
        omega
      · simp only [Array.toList_append, List.append_assoc]
        rw [← List.append_assoc, List.take_append_of_le_length (by rw [List.length_append, hxl, hl, Nat.add_mul]; exact Nat.le_refl _)]
        exact List.take_of_length_le (by rw [List.length_append, hxl, hl, Nat.add_mul]; exact Nat.le_refl _)
    rcases h.rowForm with ⟨rfl, rfl, rfl⟩ | ⟨g, cap, cur, lo, hi', rfl, hf, hnc, hc, hs, hx, hb⟩
    · have hr := run_append_nil (P := P) w t ty e i z ht hi hz ad m c news hl hnews (by omega) (by omega) (by have hb := hbytes; simp only [Nat.zero_add] at hb; omega)
      have hg := grown 0 (by omega) h.drop
      simp only [Nat.zero_add, List.nil_append, Array.empty_append] at hg ⊢
      exact ⟨_, _, hr, hg⟩
    · by_cases hroom : n + m ≤ cap
      · have hfit : n * i.size + news.length ≤ cur.size := by rw [hl, hs, ← Nat.add_mul]; exact Nat.mul_le_mul_right _ hroom
        have hr := run_append_room_off (P := P) w t ty e i ht hi g n cap lo hi' cur hb.block hf ad m c news hl hnews h1 hroom hfit
        refine ⟨_, _, hr, ?_⟩
        have hst : St B w0 (w.setRow g (cur.toList.take (n * i.size) ++ news ++ cur.toList.drop (n * i.size + news.length)).toArray)
            (Blk g (.cells (cur.toList.take (n * i.size) ++ news ++ cur.toList.drop (n * i.size + news.length)).toArray e (lo, hi')) • R) :=
          hb.step (by simp [World.setRow]) rfl rfl rfl fun F hF ⟨hf, hb'⟩ => ⟨fun k hk hn => setRow_other w g k _ (fun e => hn (by subst e; exact hf)), F, fun b hb => .inl hb, hf, setRow_heap w g cur _ e _ hb'⟩
        have hsz2 : (cur.toList.take (n * i.size) ++ news ++ cur.toList.drop (n * i.size + news.length)).toArray.size = cur.size := by
          simp only [List.size_toArray, List.length_append, List.length_take, List.length_drop, Array.length_toList]
          omega
        refine St.blkRow hst hroom hc (by rw [hsz2, hs]) (by rw [hsz2]; exact hf) ?_
        rw [hx, Nat.add_mul, ← hl, ← hxl, ← List.length_append]
        exact List.take_left
      · have holds : ∀ j u, xs[j]? = some u → w.cell? ((⟨g, 0, none⟩ : Addr).add j) = some u := fun j u hu => by
          obtain ⟨_, SA, c, e1, _, _, hh⟩ := h.reads
          cases e1
          obtain ⟨ad', e2, h'⟩ := hh j u hu
          cases e2
          exact h'
        have hr := run_append_grow (P := P) w t ty e i z ht hi hz ⟨g, 0, none⟩ n cap xs hxl holds ad m c news hl hnews (by omega) (by omega) (growslice_fits (by omega) hbytes)
        exact ⟨_, _, hr, grown cap (by omega) h.drop⟩
end
/-- append of what is read, at Oper.wp. -/
theorem wp_append {P : Program} {o : Oper} {a : Act} {K : Act → World → Prop} {Q : Exit → Act → World → Prop} (s x : Operand) {t e : TypeId} (ht : P.underlying t = some (.slice e)) {z : Value} {size bytes : Nat}
    (hi : (P.info? e).map (fun i => (i.zero, i.size, i.bytes)) = some (some z, size, bytes)) (hzs : z.cells.size = size) (hsz : 0 < size)
    (ho : o.op = .call { callee := .builtin .append, args := #[s, x], argTypes := #[t, t] }) (v : Value) (n : Nat) (xs : List Value)
    (hs : a.eval s = v) (h : St B w0 w (RowV e size v n xs • R)) {A : Option Addr} {m c : Nat} {news : List Value} (hx : a.eval x = .slice A m c) (hl : news.length = m * size) (hr : ∀ j u, news[j]? = some u → ∃ ad, A = some ad ∧ w.cell? (ad.add j) = some u) (h1 : ∀ u ∈ news, u.oneCell' = true) (h63 : n + m ≤ maxLen) (hb : (n + m) * bytes ≤ 140737488355328)
    (hK : ∀ v' w', St B w0 w' (RowV e size v' (n + m) (xs ++ news) • R) → K (a.put o.dst v') w') : Oper.wp P o a w K Q := by
  obtain ⟨i0, hi0, hz0, hz1, hz2⟩ := info_parts hi
  obtain ⟨v', w', hrun, hst⟩ := run_append2 (P := P) t o.type i0 z bytes ht hi0 hz0 hz1 hz2 hzs hsz h (SA := A) (m := m) (c := c) (news := news) hl hr h1 h63 hb
  unfold Oper.wp execOp
  simp only [ho, resolve, invoke, builtin, Sem.run_bind, Sem.run_pure, Result.andThen_ok, List.map_toArray, List.map_cons, List.map_nil, hs, hx, hrun]
  exact hK v' w' hst
theorem wpList_append {P : Program} {ops : Array Oper} {rest : List Oper} {o : Oper} {a : Act} {Q : Exit → Act → World → Prop} (hw : Region.wanted o (yielded ops a.tmps) = true) (s x : Operand) {t e : TypeId} (ht : P.underlying t = some (.slice e)) {z : Value} {size bytes : Nat}
    (hi : (P.info? e).map (fun i => (i.zero, i.size, i.bytes)) = some (some z, size, bytes)) (hzs : z.cells.size = size) (hsz : 0 < size)
    (ho : o.op = .call { callee := .builtin .append, args := #[s, x], argTypes := #[t, t] }) (v : Value) (n : Nat) (xs : List Value)
    (hs : a.eval s = v) (h : St B w0 w (RowV e size v n xs • R)) {A : Option Addr} {m c : Nat} {news : List Value} (hx : a.eval x = .slice A m c) (hl : news.length = m * size) (hr : ∀ j u, news[j]? = some u → ∃ ad, A = some ad ∧ w.cell? (ad.add j) = some u) (h1 : ∀ u ∈ news, u.oneCell' = true) (h63 : n + m ≤ maxLen) (hb : (n + m) * bytes ≤ 140737488355328)
    (hK : ∀ v' w', St B w0 w' (RowV e size v' (n + m) (xs ++ news) • R) → wpList P ops Q rest (a.put o.dst v') w') : wpList P ops Q (o :: rest) a w := by
  unfold wpList
  rw [if_pos hw]
  exact .inl (wp_append s x ht hi hzs hsz ho v n xs hs h hx hl hr h1 h63 hb hK)
end Go.Proofs.Ytbjddomocggjmaa.Sc
