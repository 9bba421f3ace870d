/- The walk of slices.DeleteFunc at ranges. -/
import Derived.Test.YtkidoggmlafkgaaSpN
namespace Go.Proofs.Ytkidoggmlafkgaa.Span
open Go.RowKit Go.Proofs.Ytkidoggmlafkgaa.Sep
variable {B : Nat} {w0 w : World} {R : HP}

/-- The row's two cells of one element are set. -/
theorem set_two (cur : Array Value) (n a : Nat) (c : List Rg) (r : Rg) (hx : cur.toList.take (n * 2) = cells2 c) (hcl : c.length = n) (ha : a < n) :
    ((cur.setIfInBounds (a * 2) (.int .i64 r.1)).setIfInBounds (a * 2 + 1) (.int .i64 r.2)).toList.take (n * 2) = cells2 (c.set a r) := by
  simp only [Array.toList_setIfInBounds, List.take_set, hx]
  apply List.ext_getElem?
  intro j
  have hl := cells2_length c
  have hl2 := cells2_length (c.set a r)
  rw [List.length_set] at hl2
  by_cases hj : j < n * 2
  · have hk : j / 2 < c.length := by omega
    rw [List.getElem?_set, List.getElem?_set]
    rcases Nat.mod_two_eq_zero_or_one j with hm | hm
    · by_cases hja : j = a * 2
      · subst hja
        have e := cells2_at (c.set a r) a r (by rw [List.getElem?_set]; simp; omega) 0 _ rfl
        rw [Nat.add_zero] at e
        rw [if_neg (by omega), if_pos rfl, e]
        simp only [hl]
        rw [if_pos (by omega)]
      · have hne : ¬ a = j / 2 := by omega
        have e := cells2_at (c.set a r) (j / 2) c[j / 2] (by rw [List.getElem?_set, if_neg hne, List.getElem?_eq_getElem hk]) 0 _ rfl
        have e2 := cells2_at c (j / 2) c[j / 2] (List.getElem?_eq_getElem hk) 0 _ rfl
        rw [show j / 2 * 2 + 0 = j from by omega] at e e2
        rw [if_neg (by omega), if_neg (by omega), e, e2]
    · by_cases hja : j = a * 2 + 1
      · subst hja
        have e := cells2_at (c.set a r) a r (by rw [List.getElem?_set]; simp; omega) 1 _ rfl
        rw [if_pos rfl, e]
        simp only [List.length_set, hl]
        rw [if_pos (by omega)]
      · have hne : ¬ a = j / 2 := by omega
        have e := cells2_at (c.set a r) (j / 2) c[j / 2] (by rw [List.getElem?_set, if_neg hne, List.getElem?_eq_getElem hk]) 1 _ rfl
        have e2 := cells2_at c (j / 2) c[j / 2] (List.getElem?_eq_getElem hk) 1 _ rfl
        rw [show j / 2 * 2 + 1 = j from by omega] at e e2
        rw [if_neg (by omega), if_neg (by omega), e, e2]
  · rw [List.getElem?_eq_none (by simp only [List.length_set]; omega), List.getElem?_eq_none (by omega)]

set_option maxHeartbeats 1000000 in
theorem delete_calls (v : Value) (s : List Rg) (h : St B w0 w (Row2 v s • R)) (hs : s.length ≤ 1000000000) :
    Calls Try.prog 36 #[v, .func (.func 38) #[] #[]] w fun e w' => ∃ v', e = .returned v' ∧ St B w0 w' (Row2 v' (s.filter goodR) • R) := by
  have eg : ∀ args w, (callFunc 38 args).run Try.prog w = .ok (.enter 38 args) w := enters_of Try.func38 (by kernel_rfl) rfl
  have H := Lib.hid h
  have hidx := index_calls 38 #[] eg badR v s h (fun W hW => St.r2 hW) bad_tells
  obtain ⟨_, Av, cv, rfl, hcv, hcmv, -⟩ := id h.reads
  go_enter Try.func36, Try.ntmps36
  go_wp2_with fail
  refine hidx.mono ?_
  rintro e w1 ⟨i, rfl, h1, h3⟩
  clear hidx h H
  have H1 := Lib.hid h1
  rcases h3 with ⟨k, r, rfl, hr, hpr, hbe⟩ | ⟨rfl, hn⟩
  · have hk : k < s.length := (List.getElem?_eq_some_iff.1 hr).1
    rcases h1.rowForm with ⟨_, hn0, _⟩ | ⟨g, cap, cur, lo, hi, ev, hf, hnc, hcm, hsz, hx, hb⟩
    · omega
    simp only [Value.slice.injEq] at ev
    obtain ⟨rfl, -, rfl⟩ := ev
    rw [hsz] at hf
    have hki : ((k : Int) == -1) = false := by rw [beq_eq_false_iff_ne]; omega
    have HB := Lib.hid hb
    have HX := Lib.hid (And.intro hx (And.intro hr (And.intro hpr hbe)))
    clear hx hb h1 H1 hr hpr hbe
    go_wp2_with fail
    go_loopw [5, 6] (fun i j wr => ∃ (a b : Nat) (cur : Array Value) (c : List Rg), i = .int .i64 a ∧ j = .int .i64 b ∧ a < b ∧ b ≤ s.length ∧ cur.size = cv * 2 ∧ c.length = s.length ∧
      Hid (cur.toList.take (s.length * 2) = cells2 c) ∧ Hid (c.take a = (s.take b).filter goodR) ∧ Hid (c.drop b = s.drop b) ∧ Hid (St B w0 wr (Blk g (.cells cur 32 (lo, hi)) • R))) (fun _ j _ => s.length - (intOf j).toNat)
    case atStart =>
      refine ⟨k, k + 1, cur, s, rfl, by go_num, by omega, by omega, hsz, rfl, Lib.hid HX.out.1, Lib.hid ?_, Lib.hid rfl, HB⟩
      obtain ⟨-, hr, hpr, hbe⟩ := HX.out
      rw [List.take_add_one, hr, List.filter_append, List.filter_eq_self.2 (fun x hx => by unfold goodR; rw [hbe x hx]; rfl)]
      simp [goodR, hpr]
    case round =>
      clear HB HX hsz cur
      obtain ⟨a, b, cur, c, rfl, rfl, hab, hbs, hsz, hcl, HX, HT, HD, HS⟩ := hrel
      by_cases hlt : b < s.length
      · obtain ⟨r, hr⟩ : ∃ r, s[b]? = some r := ⟨_, List.getElem?_eq_getElem hlt⟩
        have hcr : c[b]? = some r := by
          have := congrArg (fun l => l[0]?) HD.out
          simp only [List.getElem?_drop, Nat.add_zero] at this
          rw [this, hr]
        have hat : ∀ (j : Nat) (u : Value), (cells2 c)[j]? = some u → wr.cell? ⟨g, 0 + j, none⟩ = some u := by
          intro j u hu
          have hj := (List.getElem?_eq_some_iff.1 hu).1
          rw [cells2_length, hcl] at hj
          rw [← HX.out, List.getElem?_take, if_pos hj] at hu
          rw [Nat.zero_add]
          exact HS.out.cell j (by simpa using hu)
        have d0 := hat _ _ (cells2_at c b r hcr 0 _ rfl)
        have d1 := hat _ _ (cells2_at c b r hcr 1 _ rfl)
        simp only [Nat.zero_add, Nat.add_zero] at d0 d1
        have HQ := Lib.hid (And.intro hr hcr)
        clear hat hr hcr
        have hcall := bad_tells (B := B) (w0 := w0) (R := Blk wr.heap.size (.cells #[.int .i64 r.1, .int .i64 r.2] 32) • Blk g (.cells cur 32 (lo, hi)) • R) _ r (HS.out.alloc _)
        go_wp2_with fail
        refine Calls.mono hcall ?_
        rintro e w2 ⟨rfl, h2⟩
        clear hcall d0 d1
        have m0 : w2.cell? ⟨wr.heap.size, 0, none⟩ = some (.int .i64 r.1) := h2.cell 0 rfl
        have m1 : w2.cell? ⟨wr.heap.size, 1, none⟩ = some (.int .i64 r.2) := h2.cell 1 rfl
        obtain ⟨u0, hu0⟩ : ∃ u, cur[a * 2]? = some u := ⟨_, Array.getElem?_eq_getElem (by omega)⟩
        obtain ⟨u1, hu1⟩ : ∃ u, cur[a * 2 + 1]? = some u := ⟨_, Array.getElem?_eq_getElem (by omega)⟩
        have n0 : w2.cell? ⟨g, a * 2, none⟩ = some u0 := h2.drop.cell _ hu0
        have n1 : w2.cell? ⟨g, a * 2 + 1, none⟩ = some u1 := h2.drop.cell _ hu1
        have f0 : w2.frozen? ⟨g, a * 2, none⟩ = false := h2.drop.free _ (by omega)
        have f1 : w2.frozen? ⟨g, a * 2 + 1, none⟩ = false := h2.drop.free _ (by omega)
        have H2 := Lib.hid h2.drop
        clear h2 hu0 hu1
        cases hq : badR r with
        | true =>
          have HF : Hid (c.take a = (s.take (b + 1)).filter goodR) := Lib.hid (by rw [List.take_add_one, HQ.out.1, List.filter_append, ← HT.out]; simp [goodR, hq])
          go_wp2_with fail
          refine ⟨⟨a, b + 1, cur, c, rfl, by go_num, by omega, by omega, hsz, hcl, HX, HF, Lib.hid ?_, H2⟩, by simp only [intOf]; omega⟩
          have := congrArg (List.drop 1) HD.out
          simpa [List.drop_drop] using this
        | false =>
          have HF : Hid ((c.set a r).take (a + 1) = (s.take (b + 1)).filter goodR) := Lib.hid (by
            rw [List.take_add_one, List.take_add_one, HQ.out.1, List.filter_append, ← HT.out, List.take_set_of_le (Nat.le_refl _), List.getElem?_set, if_pos rfl, if_pos (by omega)]
            simp [goodR, hq])
          go_wp2_with fail
          refine ⟨⟨a + 1, b + 1, _, c.set a r, by go_num, by go_num, by omega, by omega, ?_, by rw [List.length_set]; exact hcl, Lib.hid (set_two cur s.length a c r HX.out hcl (by omega)), HF, Lib.hid ?_, Lib.hid ((H2.out.set (a * 2) _).set (a * 2 + 1) _)⟩, by simp only [intOf]; omega⟩
          · rw [Array.size_setIfInBounds, Array.size_setIfInBounds]; exact hsz
          · have h7 := congrArg (List.drop 1) HD.out
            rw [List.drop_drop, List.drop_drop] at h7
            rw [List.drop_set_of_lt (by omega)]
            exact h7
      · obtain rfl : b = s.length := by omega
        have HF : Hid (c.take a = s.filter goodR) := Lib.hid (by rw [HT.out, List.take_length])
        clear HT HD
        obtain ⟨cur', w', hrun, hsz', hx', h5⟩ := clear2 0 g a (s.length - a) (cv - a) cv cur 32 lo hi (by omega) HS.out (by omega) hsz (by omega)
        have H5 := Lib.hid (And.intro h5 hx')
        clear h5 hx' HS
        go_wp2
        go_ret
        refine ⟨_, rfl, ?_⟩
        have hal : (s.filter goodR).length = a := by rw [← HF.out, List.length_take]; omega
        unfold Row2
        rw [hal]
        refine H5.out.1.blkRow (by omega) hcm hsz' (by rw [hsz']; exact hf) ?_
        rw [H5.out.2, ← HF.out]
        have h8 := congrArg (List.take (a * 2)) HX.out
        rw [List.take_take, Nat.min_eq_left (by omega)] at h8
        rw [h8]
        have e9 : c = c.take a ++ c.drop a := (List.take_append_drop a c).symm
        conv => lhs; rw [e9]
        rw [cells2_append, List.take_append_of_le_length (by rw [cells2_length, List.length_take]; omega)]
        exact List.take_of_length_le (by rw [cells2_length, List.length_take]; omega)
  · have e1 : s.filter goodR = s := List.filter_eq_self.2 fun x hx => by unfold goodR; rw [hn x hx]; rfl
    have HE := Lib.hid e1
    clear e1 hn
    go_wp2
    go_ret
    rw [HE.out]
    exact ⟨_, rfl, H1.out⟩
end Go.Proofs.Ytkidoggmlafkgaa.Span
