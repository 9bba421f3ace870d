/- The walks of spans.rest and Minus. -/
import Derived.Test.YtkidoggmlafkgaaSpP
namespace Go.Proofs.Ytkidoggmlafkgaa.Span
open Go.RowKit Go.Proofs.Ytkidoggmlafkgaa.Sep
variable {B : Nat} {w0 w : World} {R : HP}

theorem hasB_out {s : List Rg} (hs : ∀ r ∈ s, okR r) {n : Int} (hn : n < minI ∨ maxI < n) : hasB s n = false := by
  unfold hasB
  rw [List.any_eq_false]
  intro r hr
  have h1 := hs r hr
  unfold okR at h1
  rw [inR_false (by omega)]
  simp
/-- What stands after the first k of u are passed. -/
structure Gap (u : List Rg) (k : Nat) (out : List Rg) (f : Int) : Prop where
  has : ∀ n, minI ≤ n → n ≤ maxI → hasB out n = (decide (n < f) && !hasB u n)
  next : rightFrom (f - 1) (u.drop k)
  late : ∀ n, f ≤ n → hasB u n = hasB (u.drop k) n
  lo : minI ≤ f
  hi : f ≤ maxI
  ok : ∀ r ∈ out, okR r
  len : out.length ≤ k
theorem Gap.start {u : List Rg} (hr : right u) (ho : ∀ r ∈ u, okR r) : Gap u 0 [] minI where
  has n h1 h2 := by rw [decide_eq_false (by omega)]; rfl
  next := by
    obtain ⟨b, hb⟩ := hr
    cases u with
    | nil => trivial
    | cons r u =>
      have h1 := ho r (by simp)
      unfold okR at h1
      exact ⟨by omega, hb.2⟩
  late n h := rfl
  lo := Int.le_refl _
  hi := by decide
  ok r h := by cases h
  len := Nat.le_refl _
def gapOut (out : List Rg) (f : Int) (x : Rg) : List Rg := if f < x.1 then out ++ [(f, x.1 - 1)] else out
theorem Gap.facts {u : List Rg} {k : Nat} {out : List Rg} {f : Int} (h : Gap u k out f) {x : Rg} (hx : u[k]? = some x) : f ≤ x.1 ∧ x.1 ≤ x.2 ∧ rightFrom (x.2 + 1) (u.drop (k + 1)) ∧ ∀ n, f ≤ n → hasB u n = (inR x n || hasB (u.drop (k + 1)) n) := by
  obtain ⟨hk, ek⟩ := List.getElem?_eq_some_iff.1 hx
  have e : u.drop k = x :: u.drop (k + 1) := by rw [← ek]; exact List.drop_eq_getElem_cons hk
  have h1 := h.next
  rw [e] at h1
  refine ⟨by have := h1.1; omega, h1.2.1, h1.2.2, fun n hn => ?_⟩
  rw [h.late n hn, e, hasB_cons]
theorem Gap.out {u : List Rg} {k : Nat} {out : List Rg} {f : Int} (h : Gap u k out f) {x : Rg} (hx : u[k]? = some x) (n : Int) (h1 : minI ≤ n) (h2 : n ≤ maxI) : hasB (gapOut out f x) n = (decide (n < x.2 + 1) && !hasB u n) := by
  obtain ⟨a1, a2, a3, a4⟩ := h.facts hx
  have hb := h.has n h1 h2
  have e : hasB (gapOut out f x) n = (hasB out n || (decide (f ≤ n) && decide (n < x.1))) := by
    unfold gapOut
    split
    · rw [hasB_snoc]
      congr 1
      unfold inR
      rw [Bool.eq_iff_iff]
      simp only [Bool.and_eq_true, decide_eq_true_eq]
      omega
    · rw [show (decide (f ≤ n) && decide (n < x.1)) = false from by rw [Bool.eq_false_iff]; simp; omega]
      simp
  rw [e, hb]
  by_cases c1 : n < f
  · rw [decide_eq_true c1, decide_eq_false (show ¬ f ≤ n by omega), decide_eq_true (show n < x.2 + 1 by omega)]
    simp
  · rw [decide_eq_false c1, decide_eq_true (show f ≤ n by omega)]
    by_cases c2 : n < x.1
    · rw [a4 n (by omega), inR_false (.inl c2), low a3 (by omega), decide_eq_true c2, decide_eq_true (show n < x.2 + 1 by omega)]
      rfl
    · rw [decide_eq_false c2]
      by_cases c3 : n < x.2 + 1
      · rw [a4 n (by omega), inR_eq.2 ⟨by omega, by omega⟩, decide_eq_true c3]
        rfl
      · rw [decide_eq_false c3]
        rfl
theorem gapOut_ok {out : List Rg} {f : Int} {x : Rg} (ho : ∀ r ∈ out, okR r) (h1 : minI ≤ f) (h2 : f ≤ maxI) (hx : okR x) : ∀ r ∈ gapOut out f x, okR r := by
  unfold gapOut
  split
  · intro r hr
    rcases List.mem_append.1 hr with hr | hr
    · exact ho r hr
    · obtain rfl := List.mem_singleton.1 hr
      unfold okR at *
      simp only
      omega
  · exact ho
theorem gapOut_len (out : List Rg) (f : Int) (x : Rg) : (gapOut out f x).length ≤ out.length + 1 := by
  unfold gapOut
  split
  · simp
  · omega
theorem Gap.step {u : List Rg} {k : Nat} {out : List Rg} {f : Int} (h : Gap u k out f) {x : Rg} (hx : u[k]? = some x) (hxo : okR x) (hm : x.2 ≠ maxI) : Gap u (k + 1) (gapOut out f x) (x.2 + 1) where
  has := h.out hx
  next := by
    obtain ⟨a1, a2, a3, a4⟩ := h.facts hx
    exact a3.mono (by omega)
  late n hn := by
    obtain ⟨a1, a2, a3, a4⟩ := h.facts hx
    rw [a4 n (by omega), inR_false (.inr (by omega))]
    rfl
  lo := by unfold okR at hxo; omega
  hi := by unfold okR at hxo; omega
  ok := gapOut_ok h.ok h.lo h.hi hxo
  len := by have := h.len; have := gapOut_len out f x; omega
theorem Gap.early {u : List Rg} {k : Nat} {out : List Rg} {f : Int} (h : Gap u k out f) {x : Rg} (hx : u[k]? = some x) (hm : x.2 = maxI) (n : Int) (h1 : minI ≤ n) (h2 : n ≤ maxI) : hasB (gapOut out f x) n = !hasB u n := by
  rw [h.out hx n h1 h2, decide_eq_true (by omega)]
  rfl
theorem Gap.done {u out : List Rg} {f : Int} (h : Gap u u.length out f) (n : Int) (h1 : minI ≤ n) (h2 : n ≤ maxI) : hasB (out ++ [(f, maxI)]) n = !hasB u n := by
  rw [hasB_snoc, h.has n h1 h2]
  by_cases c : n < f
  · rw [decide_eq_true c, inR_false (.inl c)]
    simp
  · have hl := h.late n (by omega)
    rw [List.drop_length] at hl
    rw [decide_eq_false c, hl, inR_eq.2 ⟨by simp only; omega, h2⟩]
    rfl

set_option maxHeartbeats 2000000 in
theorem rest_calls (v : Value) (s : List Rg) (h : St B w0 w R) (ha : ∀ W, St B w0 W R → R2 W v s) (hs : s.length ≤ 100000000) (hok : ∀ r ∈ s, okR r) :
    Calls Try.prog 46 #[v] w fun e w' => ∃ v' u, e = .returned v' ∧ (∀ n, minI ≤ n → n ≤ maxI → hasB u n = !hasB s n) ∧ u.length ≤ s.length + 1 ∧ (∀ r ∈ u, okR r) ∧ St B w0 w' (Row2 v' u • R) := by
  have HN := norm_calls v s h ha (by omega) hok
  clear h ha hok
  go_enter Try.func46, Try.ntmps46
  go_wp2_with fail
  refine HN.mono ?_
  rintro e w1 ⟨v1, u, rfl, hu1, hu2, hu3, hu4, hu5⟩
  clear HN
  obtain ⟨_, Av, cv, rfl, hcv, hcmv, -⟩ := id hu5.reads
  have H1 := Lib.hid (hu5.nil 32 2)
  have HU := Lib.hid (And.intro hu1 (And.intro hu2 hu4))
  have hul : u.length ≤ 9223372036854775807 := by omega
  clear hu1 hu2 hu4 hu5
  go_wp2_with fail
  go_loopw [3, 4, 10] (fun vo fv i wr => ∃ (k : Nat) (out : List Rg) (f : Int), k ≤ u.length ∧ i = .int .i64 k ∧ fv = .int .i64 f ∧ Hid (Gap u k out f) ∧ Hid (St B w0 wr (Row2 vo out • Row2 (.slice Av u.length cv) u • R))) (fun _ _ i _ => u.length - (intOf i).toNat)
  case atStart => exact ⟨0, [], minI, Nat.zero_le _, rfl, rfl, Lib.hid (Gap.start HU.out.1 HU.out.2.2), H1⟩
  case round =>
    clear H1
    obtain ⟨k, out, f, hk, rfl, rfl, HG, HS⟩ := hrel
    have hf0 := HG.out.lo
    have hf1 := HG.out.hi
    have hol := HG.out.len
    simp only [minI, maxI] at hf0 hf1
    by_cases hlt : k < u.length
    · obtain ⟨x, hx⟩ : ∃ x, u[k]? = some x := ⟨_, List.getElem?_eq_getElem hlt⟩
      have hxo := HU.out.2.2 x (List.mem_of_getElem? hx)
      obtain ⟨_, _, e, _, _, hat⟩ := id (St.r2 HS.out.two)
      obtain ⟨g, off, e2, d0, d1⟩ := hat k x hx
      simp only [Value.slice.injEq] at e
      obtain ⟨rfl, -, rfl⟩ := e
      subst e2
      obtain ⟨hfx, hxx, -, -⟩ := HG.out.facts hx
      have HX := Lib.hid (And.intro hx hxo)
      obtain ⟨x1, x2, x3, x4⟩ := hxo
      simp only [minI, maxI] at x1 x2 x3 x4
      have HA := Lib.hid (HS.out.alloc (.cells #[.int .i64 x.1, .int .i64 x.2] 32))
      have m0 := HA.out.cell 0 rfl
      have m1 := HA.out.cell 1 rfl
      clear hat hx HS
      by_cases hgt : f < x.1
      · have hd : decide (x.1 > f) = true := decide_eq_true hgt
        have HO : Hid (out ++ [(f, x.1 - 1)] = gapOut out f x) := Lib.hid (by unfold gapOut; rw [if_pos hgt])
        go_wp2_with (at_builtin; refine Held.out ?_)
        refine ⟨?_⟩
        refine append2 rfl _ _ rfl _ _ out [(f, x.1 - 1)] rfl (HA.out.alloc _).three rfl (blkReadsN (n := 1) (c := 1) (alloc_at (n := wr.heap.size + 1) HA.out _ (by simp)) rfl (by decide) (by decide) rfl) (by simp only [List.length_singleton]; omega) ?_
        intro v' w5 h5
        rw [HO.out] at h5
        have p0 := h5.three.cell 0 rfl
        have p1 := h5.three.cell 1 rfl
        have H5 := Lib.hid h5.drop2.drop2
        clear h5 m0 m1 HA d0 d1
        by_cases hm : x.2 = 9223372036854775807
        · have bm : (x.2 == 9223372036854775807) = true := by simpa using hm
          go_wp2
          go_ret
          exact ⟨_, gapOut out f x, rfl, fun n h1 h2 => by rw [HG.out.early HX.out.1 hm n h1 h2, HU.out.2.1], by have := gapOut_len out f x; omega, gapOut_ok HG.out.ok HG.out.lo HG.out.hi HX.out.2, H5.out.drop2⟩
        · have bm : (x.2 == 9223372036854775807) = false := by simpa using hm
          go_wp2
          exact ⟨⟨k + 1, gapOut out f x, x.2 + 1, by omega, by go_num, by go_num, Lib.hid (HG.out.step HX.out.1 HX.out.2 hm), H5⟩, by simp only [intOf]; omega⟩
      · have hd : decide (x.1 > f) = false := decide_eq_false hgt
        have HO : Hid (out = gapOut out f x) := Lib.hid (by unfold gapOut; rw [if_neg hgt])
        by_cases hm : x.2 = 9223372036854775807
        · have bm : (x.2 == 9223372036854775807) = true := by simpa using hm
          have HM := Lib.hid hm
          clear hm
          go_wp2
          go_ret
          have hA := HA.out.drop.drop2
          have hr : ∀ n, minI ≤ n → n ≤ maxI → hasB out n = !hasB s n := fun n h1 h2 => by rw [HO.out, HG.out.early HX.out.1 HM.out n h1 h2, HU.out.2.1]
          first | exact ⟨_, out, rfl, hr, by omega, HG.out.ok, hA⟩ | exact ⟨_, rfl, out, hr, by omega, fun p q h => HG.out.ok (p, q) h, hA⟩
        · have bm : (x.2 == 9223372036854775807) = false := by simpa using hm
          go_wp2
          exact ⟨⟨k + 1, out, x.2 + 1, by omega, by go_num, by go_num, Lib.hid (by have h := HG.out.step HX.out.1 HX.out.2 hm; rwa [← HO.out] at h), Lib.hid HA.out.drop⟩, by simp only [intOf]; omega⟩
    · obtain rfl : k = u.length := by omega
      go_wp2_with (at_builtin; refine Held.out ?_)
      refine ⟨?_⟩
      refine append2 rfl _ _ rfl _ _ out [(f, maxI)] rfl (HS.out.alloc _).two rfl (blkReadsN (n := 1) (c := 1) (HS.out.alloc _) rfl (by decide) (by decide) rfl) (by simp only [List.length_singleton]; omega) ?_
      intro v' w5 h5
      have H5 := Lib.hid h5.drop2.drop2
      clear h5 HS
      go_wp2
      go_ret
      refine ⟨_, out ++ [(f, maxI)], rfl, fun n h1 h2 => by rw [HG.out.done n h1 h2, HU.out.2.1], by simp; omega, fun r hr => ?_, H5.out⟩
      rcases List.mem_append.1 hr with hr | hr
      · exact HG.out.ok r hr
      · obtain rfl := List.mem_singleton.1 hr
        exact ⟨HG.out.lo, HG.out.hi, show minI ≤ maxI by decide, Int.le_refl _⟩

theorem minus_calls (va vb : Value) (a b : List Rg) (h : St B w0 w R) (ha : ∀ W, St B w0 W R → R2 W va a) (hb : ∀ W, St B w0 W R → R2 W vb b) (hab : a.length * (b.length + 1) ≤ 100000000) (hbl : b.length ≤ 100000000) (hoa : ∀ r ∈ a, okR r) (hob : ∀ r ∈ b, okR r) :
    Calls Try.prog 25 #[va, vb] w fun e w' => ∃ v' u, e = .returned v' ∧ right u ∧ (∀ n, hasB u n = (hasB a n && !hasB b n)) ∧ u.length ≤ a.length * (b.length + 1) ∧ (∀ r ∈ u, okR r) ∧ St B w0 w' (Row2 v' u • R) := by
  have H := Lib.hid (And.intro h (And.intro ha hb))
  have HOK := Lib.hid (And.intro hoa hob)
  clear h ha hb hoa hob
  go_enter Try.func25, Try.ntmps25
  go_wp2_with fail
  refine (rest_calls vb b H.out.1 H.out.2.2 hbl HOK.out.2).mono ?_
  rintro e w1 ⟨v1, r, rfl, hr1, hr2, hr3, hr4⟩
  have hle : a.length * r.length ≤ a.length * (b.length + 1) := Nat.mul_le_mul_left _ hr2
  have HR := Lib.hid (And.intro hr1 (And.intro hr3 hr4))
  clear hr1 hr3 hr4
  go_wp2_with fail
  refine (meet_calls va v1 a r HR.out.2.2 (fun W hW => H.out.2.1 W hW.drop) (fun W hW => St.r2 hW) (by omega) HOK.out.1 HR.out.2.1).mono ?_
  rintro e w2 ⟨v2, u, rfl, hu1, hu2, hu3, hu4, hu5⟩
  have HU := Lib.hid (And.intro hu1 (And.intro hu2 (And.intro hu4 hu5.drop2)))
  clear hu1 hu2 hu4 hu5
  go_wp2
  go_ret
  obtain ⟨hu1, hu2, hu4, hu5⟩ := HU.out
  refine ⟨_, u, rfl, hu1, fun n => ?_, by omega, hu4, hu5⟩
  rw [hu2]
  by_cases hn : n < minI ∨ maxI < n
  · rw [hasB_out HOK.out.1 hn]
    rfl
  · rw [HR.out.1 n (by omega) (by omega)]
end Go.Proofs.Ytkidoggmlafkgaa.Span
