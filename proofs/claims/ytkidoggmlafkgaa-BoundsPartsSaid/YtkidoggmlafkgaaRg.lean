/- The reference of layer 11: what the printed calls do, in the words of separation. -/
import Derived.Test.YtkidoggmlafkgaaRf
import Derived.Test.YtkidoggmlafkgaaSpT
namespace Go.Proofs.Ytkidoggmlafkgaa.Span
open Go.RowKit Go.Proofs.Ytkidoggmlafkgaa.Sep Go.Proofs.YtkidoggmlafkgaaW.PrintWords Go.Proofs.YtkidoggmlafkgaaW.PrintMore
variable {B : Nat} {w0 w w' : World} {R : HP}

theorem St.after (h : St B w0 w R) (hb : Below w.heap.size w w') : St B w0 w' R :=
  (St.step (A := emp) (C := emp) h.pad.swap hb.size hb.os hb.tape hb.output fun _ _ _ => ⟨fun b hl _ => hb.block b hl, fun _ => False, fun _ h => h.elim, trivial⟩).drop
/-- A row of the printed kinds, owned. -/
def KR {α : Type} (d : Kd α) (e : Nat) (v : Value) (xs : List α) : HP where
  on w F := Kd.R d e w 0 F v xs
  loc h hm := Kd.R_move h hm
  up h hf := Kd.R_mono h hf
theorem St.kd {α : Type} {d : Kd α} {e : Nat} {v : Value} {xs : List α} (h : St B w0 w R) (hb : Below w.heap.size w w') (hr : Kd.R d e w' w.heap.size (fun _ => True) v xs) : St B w0 w' (KR d e v xs • R) :=
  St.step (A := emp) (C := KR d e v xs) h.pad.swap hb.size hb.os hb.tape hb.output fun _ _ _ => ⟨fun b hl _ => hb.block b hl, fun k => w.heap.size ≤ k ∧ k < w'.heap.size, fun _ h => .inr h,
    Kd.R_lower (Kd.R_mono (Kd.R_bound hr) fun _ hk => ⟨hk.2.1, hk.2.2.1⟩) (Nat.zero_le _)⟩
theorem kr_row {v : Value} {s : List Rg} {w : World} {F : Nat → Prop} (h : (KR Pof.k32 32 v (s.map toS)).on w F) : (Row2 v s).on w F := by
  obtain ⟨h1, inner, ⟨h2, h3⟩, h4, h5⟩ := h
  have hsz : Pof.k32.sz = 2 := rfl
  rw [hsz] at h2 h3 h4 h5
  rw [List.length_map] at h2 h3 h4
  have hin : inner = cells2 s := by
    apply List.ext_getElem?
    intro t
    by_cases ht : t < s.length * 2
    · have hk : t / 2 < s.length := by omega
      have h6 := h5 (t / 2) (toS s[t / 2]) (by rw [List.getElem?_map, List.getElem?_eq_getElem hk]; rfl)
      have h7 := Pof.k32_openM h6
      have h8 : ((inner.drop (t / 2 * 2)).take 2)[t % 2]? = inner[t]? := by
        rw [List.getElem?_take, if_pos (by omega), List.getElem?_drop]
        congr 1
        omega
      rw [← h8, h7]
      rcases Nat.mod_two_eq_zero_or_one t with hm | hm
      · have e := cells2_at s (t / 2) _ (List.getElem?_eq_getElem hk) 0 _ rfl
        rw [show t / 2 * 2 + 0 = t from by omega] at e
        rw [e, hm]; rfl
      · have e := cells2_at s (t / 2) _ (List.getElem?_eq_getElem hk) 1 _ rfl
        rw [show t / 2 * 2 + 1 = t from by omega] at e
        rw [e, hm]; rfl
    · rw [List.getElem?_eq_none (by omega), List.getElem?_eq_none (by rw [cells2_length]; omega)]
  subst hin
  refine ⟨h2, ?_⟩
  rcases h3 with h3 | ⟨g, cap, cur, rfl, _, h6, h7, h8, h9, h10⟩
  · exact .inl h3
  · exact .inr ⟨g, cap, cur, 0, 0, rfl, h1 g (by simp [Value.ownBlock]), h6, .inr (Nat.le_refl _), h7, h8, h9, h10⟩
/-- What a slice of ranges reads as, in the printed words. -/
theorem R2.kd {v : Value} {s : List Rg} (h : R2 w v s) : ∃ A c, v = .slice A s.length c ∧ s.length ≤ c ∧ Kd.C Pof.k32 w A s.length (s.map toS) := by
  obtain ⟨A, c, h1, h2, h3, h4⟩ := h
  refine ⟨A, c, h1, h2, by simp, by simp only [maxLen] at h3; omega, fun hn => ?_⟩
  obtain ⟨g, off, rfl, -, -⟩ := h4 0 _ (List.getElem?_eq_getElem hn)
  refine ⟨_, rfl, fun j p hp => ?_⟩
  rw [List.getElem?_map] at hp
  obtain ⟨r, hr, rfl⟩ := Option.map_eq_some_iff.1 hp
  obtain ⟨g', off', e, d0, d1⟩ := h4 j r hr
  simp only [Option.some.injEq, Addr.mk.injEq, and_true] at e
  obtain ⟨rfl, rfl⟩ := e
  refine ⟨[.int .i64 r.1, .int .i64 r.2], rfl, Pof.k32_mk w (toS r), fun i u hu => ?_⟩
  rw [add_at]
  have hi : i < 2 := (List.getElem?_eq_some_iff.1 hu).1
  have hi2 : i = 0 ∨ i = 1 := by omega
  rcases hi2 with rfl | rfl
  · simp only [List.getElem?_cons_zero, Option.some.injEq] at hu
    rw [← hu]
    exact d0
  · simp only [List.getElem?_cons_succ, List.getElem?_cons_zero, Option.some.injEq] at hu
    rw [← hu]
    exact d1

theorem of_calls (va vb : Value) (a b : List Rg) (op : Int) (h : St B w0 w R) (ha : ∀ W, St B w0 W R → R2 W va a) (hb : ∀ W, St B w0 W R → R2 W vb b) (hla : a.length ≤ 100000) (hlb : b.length ≤ 100000) (hoa : ∀ r ∈ a, okR r) (hob : ∀ r ∈ b, okR r) (hop : op = 0 ∨ op = 1 ∨ op = 2) :
    Calls Try.prog 42 #[va, vb, .int .i64 op] w fun e w' => ∃ v' u, e = .returned v' ∧ right u ∧ (∀ n, hasB u n = askB op (hasB a n) (hasB b n)) ∧ (∀ r ∈ u, okR r) ∧ u.length ≤ 2 * a.length + 2 * b.length + 1 ∧ St B w0 w' (Row2 v' u • R) := by
  obtain ⟨u, hev, h1, h2, h3, h4⟩ := of_f a b op hla hlb hoa hob hop
  obtain ⟨k, hk⟩ := hev.rounds
  obtain ⟨A, c, rfl, hc, hA⟩ := R2.kd (ha w h)
  obtain ⟨A', c', rfl, hc', hA'⟩ := R2.kd (hb w h)
  have hcall := Pof.spandrelref11_of.calls k A c (a.map toS) A' c' (b.map toS) op (u.map toS) w (by rw [List.length_map]; exact hA) (by rw [List.length_map]; exact hc) (by rw [List.length_map]; exact hA') (by rw [List.length_map]; exact hc') hk
  rw [List.length_map, List.length_map] at hcall
  refine Calls.mono hcall ?_
  rintro e w' ⟨v, rfl, hr, hbel⟩
  exact ⟨v, u, rfl, h1, h2, h3, h4, (St.kd h hbel hr).mapFirst fun _ _ => kr_row⟩

theorem rnorm_calls (v : Value) (s : List Rg) (h : St B w0 w R) (ha : ∀ W, St B w0 W R → R2 W v s) (hs : s.length ≤ 100000) (hok : ∀ r ∈ s, okR r) :
    Calls Try.prog 18 #[v] w fun e w' => ∃ v' u, e = .returned v' ∧ right u ∧ (∀ n, hasB u n = hasB s n) ∧ (∀ r ∈ u, okR r) ∧ u.length ≤ 2 * s.length + 1 ∧ St B w0 w' (Row2 v' u • R) := by
  have hcall := of_calls v (.slice none 0 0) s [] 0 h ha (fun W hW => St.r2 (hW.nil 32 2)) hs (by simp) hok (by simp) (.inl rfl)
  have H := Lib.hid hcall
  clear hcall h ha hok
  go_enter Try.func18, Try.ntmps18
  go_wp2_with fail
  refine H.out.mono ?_
  rintro e w1 ⟨v1, u, rfl, h1, h2, h3, h4, h5⟩
  have HU := Lib.hid (And.intro h1 (And.intro h2 (And.intro h3 (And.intro h4 h5))))
  clear h1 h2 h3 h4 h5
  go_wp2
  go_ret
  obtain ⟨h1, h2, h3, h4, h5⟩ := HU.out
  exact ⟨_, u, rfl, h1, fun n => by rw [h2]; simp [askB, hasB], h3, by simpa using h4, h5⟩
theorem runion_calls (va vb : Value) (a b : List Rg) (h : St B w0 w R) (ha : ∀ W, St B w0 W R → R2 W va a) (hb : ∀ W, St B w0 W R → R2 W vb b) (hla : a.length ≤ 100000) (hlb : b.length ≤ 100000) (hoa : ∀ r ∈ a, okR r) (hob : ∀ r ∈ b, okR r) :
    Calls Try.prog 22 #[va, vb] w fun e w' => ∃ v' u, e = .returned v' ∧ right u ∧ (∀ n, hasB u n = (hasB a n || hasB b n)) ∧ (∀ r ∈ u, okR r) ∧ u.length ≤ 2 * a.length + 2 * b.length + 1 ∧ St B w0 w' (Row2 v' u • R) := by
  have hcall := of_calls va vb a b 0 h ha hb hla hlb hoa hob (.inl rfl)
  have H := Lib.hid hcall
  clear hcall h ha hb hoa hob
  go_enter Try.func22, Try.ntmps22
  go_wp2_with fail
  refine H.out.mono ?_
  rintro e w1 ⟨v1, u, rfl, h1, h2, h3, h4, h5⟩
  have HU := Lib.hid (And.intro h1 (And.intro h2 (And.intro h3 (And.intro h4 h5))))
  clear h1 h2 h3 h4 h5
  go_wp2
  go_ret
  obtain ⟨h1, h2, h3, h4, h5⟩ := HU.out
  exact ⟨_, u, rfl, h1, fun n => by rw [h2]; rfl, h3, h4, h5⟩
theorem rmeet_calls (va vb : Value) (a b : List Rg) (h : St B w0 w R) (ha : ∀ W, St B w0 W R → R2 W va a) (hb : ∀ W, St B w0 W R → R2 W vb b) (hla : a.length ≤ 100000) (hlb : b.length ≤ 100000) (hoa : ∀ r ∈ a, okR r) (hob : ∀ r ∈ b, okR r) :
    Calls Try.prog 24 #[va, vb] w fun e w' => ∃ v' u, e = .returned v' ∧ right u ∧ (∀ n, hasB u n = (hasB a n && hasB b n)) ∧ (∀ r ∈ u, okR r) ∧ u.length ≤ 2 * a.length + 2 * b.length + 1 ∧ St B w0 w' (Row2 v' u • R) := by
  have hcall := of_calls va vb a b 1 h ha hb hla hlb hoa hob (.inr (.inl rfl))
  have H := Lib.hid hcall
  clear hcall h ha hb hoa hob
  go_enter Try.func24, Try.ntmps24
  go_wp2_with fail
  refine H.out.mono ?_
  rintro e w1 ⟨v1, u, rfl, h1, h2, h3, h4, h5⟩
  have HU := Lib.hid (And.intro h1 (And.intro h2 (And.intro h3 (And.intro h4 h5))))
  clear h1 h2 h3 h4 h5
  go_wp2
  go_ret
  obtain ⟨h1, h2, h3, h4, h5⟩ := HU.out
  exact ⟨_, u, rfl, h1, fun n => by rw [h2]; rfl, h3, h4, h5⟩
theorem rminus_calls (va vb : Value) (a b : List Rg) (h : St B w0 w R) (ha : ∀ W, St B w0 W R → R2 W va a) (hb : ∀ W, St B w0 W R → R2 W vb b) (hla : a.length ≤ 100000) (hlb : b.length ≤ 100000) (hoa : ∀ r ∈ a, okR r) (hob : ∀ r ∈ b, okR r) :
    Calls Try.prog 26 #[va, vb] w fun e w' => ∃ v' u, e = .returned v' ∧ right u ∧ (∀ n, hasB u n = (hasB a n && !hasB b n)) ∧ (∀ r ∈ u, okR r) ∧ u.length ≤ 2 * a.length + 2 * b.length + 1 ∧ St B w0 w' (Row2 v' u • R) := by
  have hcall := of_calls va vb a b 2 h ha hb hla hlb hoa hob (.inr (.inr rfl))
  have H := Lib.hid hcall
  clear hcall h ha hb hoa hob
  go_enter Try.func26, Try.ntmps26
  go_wp2_with fail
  refine H.out.mono ?_
  rintro e w1 ⟨v1, u, rfl, h1, h2, h3, h4, h5⟩
  have HU := Lib.hid (And.intro h1 (And.intro h2 (And.intro h3 (And.intro h4 h5))))
  clear h1 h2 h3 h4 h5
  go_wp2
  go_ret
  obtain ⟨h1, h2, h3, h4, h5⟩ := HU.out
  exact ⟨_, u, rfl, h1, fun n => by rw [h2]; rfl, h3, h4, h5⟩
theorem rright_calls (v : Value) (s : List Rg) (h : St B w0 w R) (ha : ∀ W, St B w0 W R → R2 W v s) (hs : s.length ≤ 100000) (hok : ∀ r ∈ s, okR r) :
    Calls Try.prog 15 #[v] w fun e w' => e = .returned (.bool (rightB none s)) ∧ St B w0 w' R := by
  have H := Lib.hid (And.intro h ha)
  have hcall := rnorm_calls v s h ha hs hok
  have HC := Lib.hid hcall
  clear hcall h ha hok
  go_enter Try.func15, Try.ntmps15
  go_wp2_with fail
  refine HC.out.mono ?_
  rintro e w1 ⟨v1, u, rfl, h1, h2, h3, h4, h5⟩
  have HB : Hid (decide (s = u) = rightB none s) := Lib.hid (by
    rw [Bool.eq_iff_iff, decide_eq_true_eq, rightB_right]
    constructor
    · intro e; rw [e]; exact h1
    · intro e; exact uniq e h1 fun n => (h2 n).symm)
  have HU := Lib.hid h5
  clear h1 h2 h3 h4 h5
  go_wp2_with fail
  refine (rsame_calls v v1 s u HU.out (fun W hW => H.out.2 W hW.drop) (fun W hW => St.r2 hW)).mono ?_
  rintro e w2 ⟨rfl, h6⟩
  rw [HB.out]
  have H6 := Lib.hid h6.drop
  clear h6
  go_wp2
  go_ret
  exact ⟨rfl, H6.out⟩
end Go.Proofs.Ytkidoggmlafkgaa.Span
