/- The walk of spans.Norm. -/
import Derived.Test.YtkidoggmlafkgaaSpD
namespace Go.Proofs.Ytkidoggmlafkgaa.Span
open Go.RowKit Go.Proofs.Ytkidoggmlafkgaa.Sep
variable {B : Nat} {w0 w : World} {R : HP}

theorem nil_or_snoc (l : List Rg) : l = [] ∨ ∃ pre x, l = pre ++ [x] := by
  rcases List.eq_nil_or_concat l with h | ⟨p, x, h⟩
  · exact .inl h
  · exact .inr ⟨p, x, by rw [h, List.concat_eq_append]⟩
theorem alloc_at {n : Nat} (h : St B w0 w R) (o : Obj) (hn : w.heap.size = n) : St B w0 (w.alloc o) (Blk n o • R) := hn ▸ h.alloc o
/-- A goal held back from the walk. -/
structure Held (p : Prop) : Prop where
  out : p
/-- What stands after the first k of t are merged. -/
structure Inv (t : List Rg) (k : Nat) (out : List Rg) : Prop where
  right : right out
  has : ∀ n, hasB out n = hasB (t.take k) n
  len : out.length ≤ k
  ok : ∀ r ∈ out, okR r
  last : ∀ l, out.getLast? = some l → ∀ x ∈ t.drop k, l.1 ≤ x.1
theorem Inv.start (t : List Rg) : Inv t 0 [] := ⟨⟨0, trivial⟩, fun _ => rfl, Nat.le_refl _, (fun _ h => by cases h), (fun _ h => by cases h)⟩
theorem hasB_take (t : List Rg) (k : Nat) (x : Rg) (hk : t[k]? = some x) (n : Int) : hasB (t.take (k + 1)) n = (hasB (t.take k) n || inR x n) := by
  rw [List.take_add_one, hk]
  exact hasB_snoc _ _ _
theorem drop_mem {t : List Rg} {k : Nat} {x : Rg} (h : x ∈ t.drop (k + 1)) : x ∈ t.drop k := by
  rw [show t.drop (k + 1) = (t.drop k).drop 1 from by rw [List.drop_drop]] at h
  exact List.mem_of_mem_drop h
theorem mem_drop_at {t : List Rg} {k : Nat} {x : Rg} (h : t[k]? = some x) : x ∈ t.drop k := by
  have : (t.drop k)[0]? = some x := by rw [List.getElem?_drop]; exact h
  exact List.mem_of_getElem? this
theorem sorted_drop {t : List Rg} (hs : t.Pairwise fun x y => x.1 ≤ y.1) {k : Nat} {x : Rg} (h : t[k]? = some x) : ∀ y ∈ t.drop (k + 1), x.1 ≤ y.1 := by
  intro y hy
  obtain ⟨j, hj⟩ := List.getElem?_of_mem hy
  rw [List.getElem?_drop] at hj
  obtain ⟨hk, ek⟩ := List.getElem?_eq_some_iff.1 h
  obtain ⟨hl, el⟩ := List.getElem?_eq_some_iff.1 hj
  rw [← ek, ← el]
  exact List.pairwise_iff_getElem.1 hs k (k + 1 + j) hk hl (by omega)
theorem Inv.nil {t : List Rg} {k : Nat} {x : Rg} (h : Inv t k []) (hs : t.Pairwise fun x y => x.1 ≤ y.1) (hk : t[k]? = some x) (hx : x.1 ≤ x.2) (ho : okR x) : Inv t (k + 1) ([] ++ [x]) where
  right := right_one hx
  has n := by rw [hasB_take t k x hk, ← h.has, hasB_snoc]
  len := by have := h.len; simp
  ok r hr := by obtain rfl := List.mem_singleton.1 (show r ∈ [x] from hr); exact ho
  last l hl y hy := by
    simp at hl
    subst hl
    exact sorted_drop hs hk y hy
theorem Inv.new {t : List Rg} {k : Nat} {x l : Rg} {pre : List Rg} (h : Inv t k (pre ++ [l])) (hs : t.Pairwise fun x y => x.1 ≤ y.1) (hk : t[k]? = some x) (hx : x.1 ≤ x.2) (ho : okR x) (hn : ¬ x.1 ≤ l.2 + 1) : Inv t (k + 1) (pre ++ [l] ++ [x]) where
  right := by
    obtain ⟨b, hb⟩ := h.right
    exact ⟨b, merge_new hb (by rw [endB_snoc]; omega) hx⟩
  has n := by rw [hasB_take t k x hk, ← h.has, hasB_snoc]
  len := by have := h.len; simp at this ⊢; omega
  ok r hr := by
    rcases List.mem_append.1 hr with hr | hr
    · exact h.ok r hr
    · obtain rfl := List.mem_singleton.1 hr; exact ho
  last l' hl y hy := by
    simp at hl
    subst hl
    exact sorted_drop hs hk y hy
theorem Inv.into {t : List Rg} {k : Nat} {x l : Rg} {pre : List Rg} (h : Inv t k (pre ++ [l])) (hk : t[k]? = some x) (ho : okR x) (hn : x.1 ≤ l.2 + 1) : Inv t (k + 1) (pre ++ [(l.1, max l.2 x.2)]) where
  right := by
    obtain ⟨b, hb⟩ := h.right
    exact ⟨b, (merge_in hb (h.last l (by simp) x (mem_drop_at hk)) hn).1⟩
  has n := by
    obtain ⟨b, hb⟩ := h.right
    rw [(merge_in hb (h.last l (by simp) x (mem_drop_at hk)) hn).2, hasB_take t k x hk, ← h.has, hasB_snoc]
  len := by have := h.len; simp at this ⊢; omega
  ok r hr := by
    rcases List.mem_append.1 hr with hr | hr
    · exact h.ok r (List.mem_append_left _ hr)
    · obtain rfl := List.mem_singleton.1 hr
      have h1 := h.ok l (by simp)
      unfold okR at *
      simp only
      omega
  last l' hl y hy := by
    simp at hl
    subst hl
    exact h.last l (by simp) y (drop_mem hy)

theorem hasB_perm {s t : List Rg} (h : t.Perm s) (n : Int) : hasB t n = hasB s n := by
  unfold hasB
  rw [Bool.eq_iff_iff, List.any_eq_true, List.any_eq_true]
  constructor
  · rintro ⟨x, hx, h2⟩; exact ⟨x, h.mem_iff.1 hx, h2⟩
  · rintro ⟨x, hx, h2⟩; exact ⟨x, h.mem_iff.2 hx, h2⟩
theorem hasB_good (s : List Rg) (n : Int) : hasB (s.filter goodR) n = hasB s n := by
  unfold hasB
  rw [Bool.eq_iff_iff, List.any_eq_true, List.any_eq_true]
  constructor
  · rintro ⟨x, hx, h2⟩; exact ⟨x, (List.mem_filter.1 hx).1, h2⟩
  · rintro ⟨x, hx, h2⟩
    refine ⟨x, List.mem_filter.2 ⟨hx, ?_⟩, h2⟩
    have := inR_eq.1 h2
    simp [goodR, badR]
    omega

set_option maxHeartbeats 2000000 in
theorem norm_calls (v : Value) (s : List Rg) (h : St B w0 w R) (ha : ∀ W, St B w0 W R → R2 W v s) (hs : s.length ≤ 1000000000) (hok : ∀ r ∈ s, okR r) :
    Calls Try.prog 17 #[v] w fun e w' => ∃ v' u, e = .returned v' ∧ right u ∧ (∀ n, hasB u n = hasB s n) ∧ u.length ≤ s.length ∧ (∀ r ∈ u, okR r) ∧ St B w0 w' (Row2 v' u • R) := by
  have H := Lib.hid (And.intro h ha)
  have HOK := Lib.hid hok
  clear h ha hok
  go_enter Try.func17, Try.ntmps17
  go_wp2_with fail
  refine (clone_calls v s H.out.1 H.out.2 hs).mono ?_
  rintro e w1 ⟨v1, rfl, h1⟩
  have H1 := Lib.hid h1
  clear h1
  go_wp2_with fail
  refine (delete_calls v1 s H1.out hs).mono ?_
  rintro e w2 ⟨v2, rfl, h2⟩
  have H2 := Lib.hid h2
  clear h2 H1
  have hfl : (s.filter goodR).length ≤ s.length := List.length_filter_le _ _
  go_wp2_with fail
  refine (sort_calls v2 _ H2.out (by omega)).mono ?_
  rintro e w3 ⟨rfl, t, hp, hpw, h3⟩
  have htl : t.length ≤ 1000000000 := by rw [hp.length_eq]; omega
  have hts : t.length ≤ s.length := by rw [hp.length_eq]; omega
  obtain ⟨_, Av, cv, rfl, hcv, hcmv, -⟩ := id h3.reads
  have HT : Hid (t.Pairwise (fun x y => x.1 ≤ y.1) ∧ (∀ n, hasB t n = hasB s n) ∧ (∀ x ∈ t, x.1 ≤ x.2 ∧ okR x)) := Lib.hid ⟨hpw, fun n => by rw [hasB_perm hp, hasB_good], fun x hx => by
    have hm := List.mem_filter.1 (hp.mem_iff.1 hx)
    have h4 := hm.2
    simp [goodR, badR] at h4
    exact ⟨h4, HOK.out x hm.1⟩⟩
  have H3 := Lib.hid (h3.nil 32 2)
  clear h3 H2 hp hpw hfl
  go_wp2_with fail
  go_loopw [4, 15] (fun vo i wr => ∃ (k : Nat) (out : List Rg), k ≤ t.length ∧ i = .int .i64 k ∧ Hid (Inv t k out) ∧ Hid (St B w0 wr (Row2 vo out • Row2 (.slice Av t.length cv) t • R))) (fun _ i _ => t.length - (intOf i).toNat)
  case atStart => exact ⟨0, [], Nat.zero_le _, rfl, Lib.hid (Inv.start t), H3⟩
  case round =>
    clear H3
    obtain ⟨k, out, hk, rfl, HI, HS⟩ := hrel
    by_cases hlt : k < t.length
    · obtain ⟨x, hx⟩ : ∃ x, t[k]? = some x := ⟨_, List.getElem?_eq_getElem hlt⟩
      obtain ⟨hx12, hxo⟩ := HT.out.2.2 x (List.mem_of_getElem? hx)
      obtain ⟨_, _, e, _, _, hat⟩ := id (St.r2 HS.out.two)
      obtain ⟨g, off, e2, d0, d1⟩ := hat k x hx
      simp only [Value.slice.injEq] at e
      obtain ⟨rfl, -, rfl⟩ := e
      subst e2
      have HX := Lib.hid (And.intro hx (And.intro hx12 hxo))
      obtain ⟨x1, x2, x3, x4⟩ := hxo
      have HA := Lib.hid (HS.out.alloc (.cells #[.int .i64 x.1, .int .i64 x.2] 32))
      clear hat hx hx12
      simp only [minI, maxI] at x1 x2 x3 x4
      rcases nil_or_snoc out with rfl | ⟨pre, l, rfl⟩
      · obtain ⟨_, Ao, co, rfl, -⟩ := id HS.out.reads
        have m0 := HA.out.cell 0 rfl
        have m1 := HA.out.cell 1 rfl
        go_wp2_with fail
        go_quiet (fail)
        go_wp2_with (at_builtin; refine Held.out ?_)
        refine ⟨?_⟩
        refine append2 rfl _ _ rfl _ _ [] [x] rfl ((HA.out.drewN _).alloc _).three rfl (blkReadsN (n := 1) (c := 1) (alloc_at (n := wr.heap.size + 1) (HA.out.drewN _) _ (by simp [World.drewN])) rfl (by decide) (by decide) rfl) (by simp) ?_
        intro v' w5 h5
        have H5 := Lib.hid h5.drop2.drop2
        clear h5
        go_wp2
        exact ⟨⟨k + 1, [] ++ [x], by omega, by go_num, Lib.hid (Inv.nil HI.out HT.out.1 HX.out.1 HX.out.2.1 HX.out.2.2), H5⟩, by simp only [intOf]; omega⟩
      · have hlen : (pre ++ [l]).length = pre.length + 1 := by simp
        obtain ⟨y1, y2, y3, y4⟩ := HI.out.ok l (by simp)
        simp only [minI, maxI] at y1 y2 y3 y4
        have hmk : pre.length + 1 ≤ k := by have h9 := HI.out.len; simp at h9; omega
        have hrow : St B w0 wr (RowV 32 2 u4 (pre.length + 1) (cells2 (pre ++ [l])) • Row2 (.slice (some ⟨g, off, none⟩) t.length cv) t • R) := by
          rw [← hlen]
          exact HS.out
        rcases hrow.rowForm with ⟨_, hn0, _⟩ | ⟨b, cap, cur, lo, hi, rfl, hf, hnc, hcm, hsz, hxc, hb⟩
        · omega
        have HBk := Lib.hid (hb.alloc (.cells #[.int .i64 x.1, .int .i64 x.2] 32))
        have hcl : ∀ (j : Nat) (u : Value), (cell2 l)[j]? = some u → cur[pre.length * 2 + j]? = some u := by
          intro j u hu
          have hj : j < 2 := (List.getElem?_eq_some_iff.1 hu).1
          have e := cells2_at (pre ++ [l]) pre.length l (by simp) j u hu
          rw [← hxc, List.getElem?_take, if_pos (by omega)] at e
          simpa using e
        have l0 : (wr.alloc (.cells #[.int .i64 x.1, .int .i64 x.2] 32)).cell? ⟨b, pre.length * 2, none⟩ = some (.int .i64 l.1) := HBk.out.drop.cell _ (hcl 0 _ rfl)
        have l1 : (wr.alloc (.cells #[.int .i64 x.1, .int .i64 x.2] 32)).cell? ⟨b, pre.length * 2 + 1, none⟩ = some (.int .i64 l.2) := HBk.out.drop.cell _ (hcl 1 _ rfl)
        have lf : (wr.alloc (.cells #[.int .i64 x.1, .int .i64 x.2] 32)).frozen? ⟨b, pre.length * 2 + 1, none⟩ = false := HBk.out.drop.free _ (by omega)
        have m0 := HBk.out.cell 0 rfl
        have m1 := HBk.out.cell 1 rfl
        have HRW := Lib.hid (And.intro hrow (And.intro hxc hcl))
        have HM : Hid (∀ (q : Nat) (y : Int), St B w0 (((wr.alloc (.cells #[.int .i64 x.1, .int .i64 x.2] 32)).drewN q).setCell ⟨b, pre.length * 2 + 1, none⟩ (.int .i64 y)) (Row2 (.slice (some ⟨b, 0, none⟩) (pre.length + 1) cap) (pre ++ [(l.1, y)]) • Row2 (.slice (some ⟨g, off, none⟩) t.length cv) t • R)) := by
          refine Lib.hid fun q y => ?_
          have h7 := (HBk.out.drop.drewN q).set (pre.length * 2 + 1) (.int .i64 y)
          have e7 : (pre ++ [(l.1, y)]).length = pre.length + 1 := by simp
          unfold Row2
          rw [e7]
          refine h7.blkRow hnc hcm (by rw [Array.size_setIfInBounds]; exact hsz) (by rw [Array.size_setIfInBounds]; exact hf) ?_
          rw [Array.toList_setIfInBounds, List.take_set, hxc, cells2_append, cells2_append, List.set_append_right _ _ (by rw [cells2_length]; omega), cells2_length]
          congr 1
          rw [show pre.length * 2 + 1 - pre.length * 2 = 1 from by omega]
          rfl
        have HO : Hid (∀ (q : Nat) (o : Obj), St B w0 (((wr.alloc (.cells #[.int .i64 x.1, .int .i64 x.2] 32)).drewN q).alloc o) (Row2 (.slice (some ⟨b, 0, none⟩) (pre.length + 1) cap) (pre ++ [l]) • Blk (((wr.alloc (.cells #[.int .i64 x.1, .int .i64 x.2] 32)).drewN q).heap.size) o • Blk wr.heap.size (.cells #[.int .i64 x.1, .int .i64 x.2] 32) • Row2 (.slice (some ⟨g, off, none⟩) t.length cv) t • R)) := by
          refine Lib.hid fun q o => ?_
          have h7 := (((HS.out.alloc (.cells #[.int .i64 x.1, .int .i64 x.2] 32)).drewN q).alloc o).three
          unfold Row2 at h7
          rw [hlen] at h7
          unfold Row2
          rw [hlen]
          exact h7
        clear hrow hb hxc hcl HA
        by_cases hc : x.1 ≤ l.2 + 1
        · by_cases hg : l.2 = 9223372036854775807
          · have bg : (l.2 == 9223372036854775807) = true := by simpa using hg
            go_wp2_with fail
            go_quiet (fail)
            go_wp2_with fail
            go_region
            go_wp2
            all_goals (exact ⟨⟨k + 1, pre ++ [(l.1, max l.2 x.2)], by omega, by go_num, Lib.hid (Inv.into HI.out HX.out.1 HX.out.2.2 hc), Lib.hid (by rw [hg]; exact HM.out _ _)⟩, by simp only [intOf]; omega⟩)
          · have bg : (l.2 == 9223372036854775807) = false := by simpa using hg
            have bc : decide (x.1 ≤ l.2 + 1) = true := decide_eq_true hc
            go_wp2_with fail
            go_quiet (fail)
            go_wp2_with fail
            go_region
            go_wp2
            all_goals (exact ⟨⟨k + 1, pre ++ [(l.1, max l.2 x.2)], by omega, by go_num, Lib.hid (Inv.into HI.out HX.out.1 HX.out.2.2 hc), Lib.hid (HM.out _ _)⟩, by simp only [intOf]; omega⟩)
        · have hg : l.2 ≠ 9223372036854775807 := by omega
          have bg : (l.2 == 9223372036854775807) = false := by simpa using hg
          have bc : decide (x.1 ≤ l.2 + 1) = false := decide_eq_false hc
          go_wp2_with fail
          go_quiet (fail)
          go_wp2_with (at_builtin; refine Held.out ?_)
          refine ⟨?_⟩
          refine append2 rfl _ _ rfl _ _ (pre ++ [l]) [x] rfl (HO.out _ _) rfl (blkReadsN (n := 1) (c := 1) (alloc_at (n := wr.heap.size + 1) (HBk.out.drewN _) _ (by simp [World.drewN])) rfl (by decide) (by decide) rfl) (by simp; omega) ?_
          intro v' w5 h5
          have H5 := Lib.hid h5.drop2.drop2
          clear h5
          go_wp2
          exact ⟨⟨k + 1, pre ++ [l] ++ [x], by omega, by go_num, Lib.hid (Inv.new HI.out HT.out.1 HX.out.1 HX.out.2.1 HX.out.2.2 (by omega)), H5⟩, by simp only [intOf]; omega⟩
    · obtain rfl : k = t.length := by omega
      go_wp2
      go_ret
      have hI := HI.out
      refine ⟨_, out, rfl, hI.right, fun n => ?_, by have := hI.len; omega, hI.ok, (HS.out.two.drop)⟩
      rw [hI.has, List.take_length]
      exact HT.out.2.1 n
end Go.Proofs.Ytkidoggmlafkgaa.Span
