/- SameValue of the reference of layer 8, of equal values: walked. -/
import Derived.Deep.Cut
import Derived.Deep.CutRange
import Derived.Laws.BitsLemmas
import Derived.Test.YtbjddomocggjmaaKAf
import Derived.Test.YtbjddomocggjmaaKAl
import Derived.Test.YtbjddomocggjmaaKAm
import Derived.Test.YtbjddomocggjmaaKAp
import Derived.Test.YtbjddomocggjmaaKAq
import Derived.Test.YtbjddomocggjmaaKAr
import Derived.Test.YtbjddomocggjmaaKAs
section
namespace Go.Proofs.Ytbjddomocggjmaa.Sc
open Go.RowKit Go.ChangeShapes Go.WideShapes Go.Proofs.Ytbjddomocggjmaa.Sep
open Go.Proofs.YtbjddomocggjmaaW.PrintWords
variable {B : Nat} {w0 w : World} {R : HP}
theorem info_mds : (Try.prog.info? 47).map (fun i => (i.zero, i.size, i.bytes)) = some (some (.agg #[.string ByteArray.empty, .bool false, .slice none 0 0, .slice none 0 0]), 4, 72) := by kernel_rfl
/-- A row that reads as a list, as a parameter. -/
theorem row_C {α : Type} {d : Kd α} {e : TypeId} {v : Value} {n : Nat} {l : List α} {xs : List Value} (hz : 0 < d.sz) (hn : n = l.length) (h : St B w0 w (RowV e d.sz v n xs • R)) (hR : Reps (d.K w) d.sz l xs) : ∃ A c, v = .slice A l.length c ∧ d.C w A l.length l := by
  subst hn
  obtain ⟨hl, A, c, rfl, hnc, hm, hc⟩ := h.reads
  refine ⟨A, c, rfl, rfl, by simp only [maxLen] at hm; omega, fun hn => ?_⟩
  have h0 : 0 < xs.length := by rw [hl]; exact Nat.mul_pos hn hz
  obtain ⟨ad, rfl, -⟩ := hc 0 _ (List.getElem?_eq_getElem h0)
  refine ⟨ad, rfl, fun j p hp => ⟨_, ?_, hR.2 j p hp, fun i u hu => ?_⟩⟩
  · have hj := (List.getElem?_eq_some_iff.1 hp).1
    have : j * d.sz + d.sz ≤ xs.length := by rw [hl, ← Nat.succ_mul]; exact Nat.mul_le_mul_right _ hj
    rw [List.length_take, List.length_drop]
    omega
  · rw [List.getElem?_take] at hu
    split at hu
    · rw [List.getElem?_drop] at hu
      obtain ⟨ad', e', h'⟩ := hc _ _ hu
      cases e'
      exact h'
    · cases hu
end Go.Proofs.Ytbjddomocggjmaa.Sc
end
section
namespace Go.Proofs.Ytbjddomocggjmaa.Sc
open Go.RowKit Go.ChangeShapes Go.WideShapes Go.Proofs.Ytbjddomocggjmaa.Sep
open Go.Proofs.YtbjddomocggjmaaW.PrintWords
variable {B : Nat} {w0 w : World} {R : HP}
theorem toL_app (a b : ByteArray) : (a ++ b).data.toList = a.data.toList ++ b.data.toList := by simp
theorem dotB_list (a n : ByteArray) : (dotB a n).data.toList = a.data.toList ++ 46 :: n.data.toList := by
  unfold dotB
  rw [toL_app, toL_app, List.append_assoc]
  rfl
theorem rest_dot : ∀ l : List UInt8, restB l = true → ∀ c ∈ l, c ≠ 46
  | [], _, c, hc => by cases hc
  | d :: r, h, c, hc => by
    have hr : restB r = true ∧ d ≠ 46 := by
      unfold restB at h
      by_cases hd : al d = true
      · rw [if_pos hd] at h
        exact ⟨h, fun e => by rw [e] at hd; revert hd; decide⟩
      · rw [if_neg hd] at h
        by_cases h45 : d = 45
        · rw [if_pos h45] at h
          refine ⟨?_, fun e => by rw [h45] at e; cases e⟩
          match r, h with
          | e :: r', h => exact (Bool.and_eq_true _ _ ▸ h : _ ∧ _).2
        · rw [if_neg h45] at h
          cases h
    rcases List.mem_cons.1 hc with rfl | hc
    · exact hr.2
    · exact rest_dot r hr.1 c hc
theorem name_whole {s : ByteArray} (h : nameB s = true) : wholeB s.data.toList = true ∧ decide (headI s.data.toList < 97) = true := by
  unfold nameB upperB at h
  rw [Bool.and_eq_true, Bool.and_eq_true] at h
  exact h.1
theorem name_dot {s : ByteArray} (h : nameB s = true) : ∀ c ∈ s.data.toList, c ≠ 46 := by
  have h1 := (name_whole h).1
  revert h1
  generalize s.data.toList = l
  intro h1 c hc
  match l, h1, hc with
  | d :: r, h1, hc =>
    have h2 := (Bool.and_eq_true _ _ ▸ h1 : letterI d.toNat = true ∧ restB r = true)
    rcases List.mem_cons.1 hc with rfl | hc
    · intro e
      rw [e] at h2
      exact absurd h2.1 (by decide)
    · exact rest_dot r h2.2 c hc
theorem dot_split : ∀ {a b r r' : List UInt8}, (∀ c ∈ a, c ≠ 46) → (∀ c ∈ b, c ≠ 46) → a ++ 46 :: r = b ++ 46 :: r' → a = b ∧ r = r'
  | [], [], r, r', _, _, h => by simpa using h
  | [], y :: b, r, r', _, hb, h => by
    simp only [List.nil_append, List.cons_append, List.cons.injEq] at h
    exact absurd h.1.symm (hb y (by simp))
  | x :: a, [], r, r', ha, _, h => by
    simp only [List.nil_append, List.cons_append, List.cons.injEq] at h
    exact absurd h.1 (ha x (by simp))
  | x :: a, y :: b, r, r', ha, hb, h => by
    simp only [List.cons_append, List.cons.injEq] at h
    obtain ⟨e1, e2⟩ := dot_split (fun c hc => ha c (by simp [hc])) (fun c hc => hb c (by simp [hc])) h.2
    rw [h.1, e1, e2]
    exact ⟨rfl, rfl⟩
section
variable {a b n : ByteArray} {t : Ty}
end
end Go.Proofs.Ytbjddomocggjmaa.Sc
end
section
namespace Go.Proofs.Ytbjddomocggjmaa.Sc
open Go.RowKit Go.ChangeShapes Go.WideShapes Go.Proofs.Ytbjddomocggjmaa.Sep
open Go.Proofs.YtbjddomocggjmaaW.PrintWords
variable {B : Nat} {w0 w : World} {R : HP}
theorem val_less {c x : Val} (h : x ∈ c.f4) : SizeOf.sizeOf x < SizeOf.sizeOf c := by
  have := List.sizeOf_lt_of_mem h
  obtain ⟨k, n, s, l3, l4⟩ := c
  simp only [PScopeTwice.S147.mk.sizeOf_spec]
  simp only at this
  omega
def SValAt (w0 : World) (n : Nat) : Prop := ∀ (v : Val), SizeOf.sizeOf v < n → ∀ (W : World) (Q : HP) (A3 : Option Addr) (c3 : Nat) (A4 : Option Addr) (c4 : Nat) (A3' : Option Addr) (c3' : Nat) (A4' : Option Addr) (c4' : Nat), S w0 W Q → Kd.string.C w0 A3 v.f3.length v.f3 → Kd.string.C w0 A3' v.f3.length v.f3 → kVal.C w0 A4 v.f4.length v.f4 → kVal.C w0 A4' v.f4.length v.f4 →
  Calls Try.prog 119 #[.agg #[.int .i64 v.f0, .int .i64 v.f1, .string v.f2, .slice A3 v.f3.length c3, .slice A4 v.f4.length c4], .agg #[.int .i64 v.f0, .int .i64 v.f1, .string v.f2, .slice A3' v.f3.length c3', .slice A4' v.f4.length c4']] W fun e w' => e = .returned (.bool true) ∧ S w0 w' Q
set_option maxHeartbeats 16000000 in
set_option maxRecDepth 100000 in
theorem sval_at (n : Nat) : SValAt w0 n := by
  induction n with
  | zero => intro c hc; omega
  | succ n ih =>
    intro v hc w R A3 c3 A4 c4 A3' c3' A4' c4' h h3 h3' hC hC'
    generalize hg : w.heap.size = g
    have H := Lib.hid (alloc_at (n := g + 1) (alloc_at (n := g) h (.cells #[.int .i64 v.f0, .int .i64 v.f1, .string v.f2, .slice A3 v.f3.length c3, .slice A4 v.f4.length c4] 147) hg.symm) (.cells #[.int .i64 v.f0, .int .i64 v.f1, .string v.f2, .slice A3' v.f3.length c3', .slice A4' v.f4.length c4'] 147) (by simp [hg]))
    have HI := Lib.hid (And.intro hC (And.intro hC' (And.intro ih hc)))
    have HT := Lib.hid (And.intro h3 h3')
    have hl : v.f4.length ≤ 9223372036854775807 := hC.2.1
    have b0 := H.out.two.cell 0 rfl
    have d0 := H.out.cell 0 rfl
    have b1 := H.out.two.cell 1 rfl
    have d1 := H.out.cell 1 rfl
    have b2 := H.out.two.cell 2 rfl
    have d2 := H.out.cell 2 rfl
    have b3 := H.out.two.cell 3 rfl
    have d3 := H.out.cell 3 rfl
    have b4 := H.out.two.cell 4 rfl
    have d4 := H.out.cell 4 rfl
    clear h hC hC' ih hc h3 h3'
    go_enter Try.func119, Try.ntmps119
    go_wp2_with fail
    refine (stexts_calls A3 c3 A3' c3' v.f3 H.out HT.out.1 HT.out.2).mono ?_
    rintro e w1 ⟨rfl, h1⟩
    have H1 := Lib.hid h1
    clear h1 H b0 b1 b2 b3 b4 d0 d1 d2 d3 d4
    have b4 := H1.out.two.cell 4 rfl
    have d4 := H1.out.cell 4 rfl
    go_wp2
    clear b4 d4
    go_loopw [5] (fun u wr => ∃ x : Int, 0 ≤ x ∧ x ≤ v.f4.length ∧ u = .int .i64 x ∧ Hid (S w0 wr (Blk (g + 1) (.cells #[.int .i64 v.f0, .int .i64 v.f1, .string v.f2, .slice A3' v.f3.length c3', .slice A4' v.f4.length c4'] 147) • (Blk g (.cells #[.int .i64 v.f0, .int .i64 v.f1, .string v.f2, .slice A3 v.f3.length c3, .slice A4 v.f4.length c4] 147) • R)))) (fun u _ => v.f4.length - (intOf u).toNat)
    case atStart => exact ⟨0, Int.le_refl _, by omega, rfl, H1⟩
    case round =>
      clear H1
      obtain ⟨x, hx0, hx1, rfl, HR⟩ := hrel
      have b4 := HR.out.two.cell 4 rfl
      by_cases hlt : x < v.f4.length
      · obtain ⟨ad, cs, eA, hcl0, hK, hcell0⟩ := Kd.C_get HI.out.1 zVal x hx0 hlt
        obtain ⟨ad', cs', eA', hcl0', hK', hcell0'⟩ := Kd.C_get HI.out.2.1 zVal x hx0 hlt
        cases eA
        cases eA'
        have hcell : ∀ (j : Nat) (u : Value), cs[j]? = some u → w0.cell? (ad.add (x.toNat * 5 + j)) = some u := hcell0
        have hcell' : ∀ (j : Nat) (u : Value), cs'[j]? = some u → w0.cell? (ad'.add (x.toNat * 5 + j)) = some u := hcell0'
        have HG := Lib.hid (getD_mem v.f4 zVal x hx0 hlt)
        generalize v.f4.getD x.toNat zVal = r at *
        obtain ⟨B3, p3, B4, p4, rfl, -, k3, -, k4⟩ := PScopeTwice.k147_open (show kVal.K w0 r cs from hK)
        obtain ⟨B3', p3', B4', p4', rfl, -, k3', -, k4'⟩ := PScopeTwice.k147_open (show kVal.K w0 r cs' from hK')
        have HG5 := Lib.hid (And.intro k3 (And.intro k3' (And.intro k4 k4')))
        have HF : Hid (∀ W, Below w0.heap.size w0 W → (W.cell? (ad.add (x.toNat * 5)) = some (.int .i64 r.f0) ∧ W.cell? ⟨(ad.add (x.toNat * 5)).block, (ad.add (x.toNat * 5)).off + 1, none⟩ = some (.int .i64 r.f1) ∧ W.cell? ⟨(ad.add (x.toNat * 5)).block, (ad.add (x.toNat * 5)).off + 2, none⟩ = some (.string r.f2) ∧ W.cell? ⟨(ad.add (x.toNat * 5)).block, (ad.add (x.toNat * 5)).off + 3, none⟩ = some (.slice B3 r.f3.length p3) ∧ W.cell? ⟨(ad.add (x.toNat * 5)).block, (ad.add (x.toNat * 5)).off + 4, none⟩ = some (.slice B4 r.f4.length p4)) ∧ (W.cell? (ad'.add (x.toNat * 5)) = some (.int .i64 r.f0) ∧ W.cell? ⟨(ad'.add (x.toNat * 5)).block, (ad'.add (x.toNat * 5)).off + 1, none⟩ = some (.int .i64 r.f1) ∧ W.cell? ⟨(ad'.add (x.toNat * 5)).block, (ad'.add (x.toNat * 5)).off + 2, none⟩ = some (.string r.f2) ∧ W.cell? ⟨(ad'.add (x.toNat * 5)).block, (ad'.add (x.toNat * 5)).off + 3, none⟩ = some (.slice B3' r.f3.length p3') ∧ W.cell? ⟨(ad'.add (x.toNat * 5)).block, (ad'.add (x.toNat * 5)).off + 4, none⟩ = some (.slice B4' r.f4.length p4'))) := Lib.hid fun W hW => by
          refine ⟨⟨pw_cell_below hW (hcell 0 _ rfl), ?_, ?_, ?_, ?_⟩, ⟨pw_cell_below hW (hcell' 0 _ rfl), ?_, ?_, ?_, ?_⟩⟩
          · rw [← add_field ad _ 1 (by decide)]; exact pw_cell_below hW (hcell 1 _ rfl)
          · rw [← add_field ad _ 2 (by decide)]; exact pw_cell_below hW (hcell 2 _ rfl)
          · rw [← add_field ad _ 3 (by decide)]; exact pw_cell_below hW (hcell 3 _ rfl)
          · rw [← add_field ad _ 4 (by decide)]; exact pw_cell_below hW (hcell 4 _ rfl)
          · rw [← add_field ad' _ 1 (by decide)]; exact pw_cell_below hW (hcell' 1 _ rfl)
          · rw [← add_field ad' _ 2 (by decide)]; exact pw_cell_below hW (hcell' 2 _ rfl)
          · rw [← add_field ad' _ 3 (by decide)]; exact pw_cell_below hW (hcell' 3 _ rfl)
          · rw [← add_field ad' _ 4 (by decide)]; exact pw_cell_below hW (hcell' 4 _ rfl)
        have HZ : Hid (SizeOf.sizeOf r < n) := Lib.hid (by have := val_less (List.mem_of_getElem? HG.out); have := HI.out.2.2.2; omega)
        have p126 := eq_true hx0
        have q126 : (x < (v.f4.length : Int)) = True := eq_true hlt
        clear hcell hcell0 hcl0 hK hcell' hcell0' hcl0' hK' k3 k4 k3' k4'
        go_wp2
        clear b4
        refine wp_region_held_drew (S := fun W => (W.cell? ⟨g, 4, none⟩ = some (.slice (some ad) v.f4.length c4) ∧ W.cell? ⟨g + 1, 4, none⟩ = some (.slice (some ad') v.f4.length c4')) ∧ (W.cell? (ad.add (x.toNat * 5)) = some (.int .i64 r.f0) ∧ W.cell? ⟨(ad.add (x.toNat * 5)).block, (ad.add (x.toNat * 5)).off + 1, none⟩ = some (.int .i64 r.f1) ∧ W.cell? ⟨(ad.add (x.toNat * 5)).block, (ad.add (x.toNat * 5)).off + 2, none⟩ = some (.string r.f2) ∧ W.cell? ⟨(ad.add (x.toNat * 5)).block, (ad.add (x.toNat * 5)).off + 3, none⟩ = some (.slice B3 r.f3.length p3) ∧ W.cell? ⟨(ad.add (x.toNat * 5)).block, (ad.add (x.toNat * 5)).off + 4, none⟩ = some (.slice B4 r.f4.length p4)) ∧ (W.cell? (ad'.add (x.toNat * 5)) = some (.int .i64 r.f0) ∧ W.cell? ⟨(ad'.add (x.toNat * 5)).block, (ad'.add (x.toNat * 5)).off + 1, none⟩ = some (.int .i64 r.f1) ∧ W.cell? ⟨(ad'.add (x.toNat * 5)).block, (ad'.add (x.toNat * 5)).off + 2, none⟩ = some (.string r.f2) ∧ W.cell? ⟨(ad'.add (x.toNat * 5)).block, (ad'.add (x.toNat * 5)).off + 3, none⟩ = some (.slice B3' r.f3.length p3') ∧ W.cell? ⟨(ad'.add (x.toNat * 5)).block, (ad'.add (x.toNat * 5)).off + 4, none⟩ = some (.slice B4' r.f4.length p4'))) (by kernel_rfl) ?_ (fun hHeld => ?_)
        · exact ⟨⟨HR.out.drew.two.cell 4 rfl, HR.out.drew.cell 4 rfl⟩, HF.out _ HR.out.drew.below⟩
        refine wpAnyH_take (i := 0) (oi := ⟨some 49, .fieldAddr 147 (.tmp 2) 4, 0, "ref.go:413", #[], none⟩) (v := ?_) rfl (by kernel_rfl) (by kernel_rfl) (by kernel_rfl) (fun _ _ _ h => h) (Or.inl ⟨by rfl, ?_⟩) (by assumption) ?_
        rotate_left 1
        · intro w hSw
          try dsimp only at hSw
          go_simp
          all_goals with_reducible rfl
        try simp only [Act.put, List.setIfInBounds_toArray, List.set_cons_succ, List.set_cons_zero]
        refine wpAnyH_take (i := 1) (oi := ⟨some 50, .load 94 (.tmp 49), 94, "ref.go:413", #[⟨0, .data⟩], none⟩) (v := ?_) rfl (by kernel_rfl) (by kernel_rfl) (by kernel_rfl) (fun _ _ _ h => h) (Or.inl ⟨by rfl, ?_⟩) (by assumption) ?_
        rotate_left 1
        · intro w hSw
          try dsimp only at hSw
          go_simp
          all_goals with_reducible rfl
        try simp only [Act.put, List.setIfInBounds_toArray, List.set_cons_succ, List.set_cons_zero]
        refine wpAnyH_take (i := 2) (oi := ⟨some 51, .move (.tmp 5), 3, "ref.go:413", #[], none⟩) (v := ?_) rfl (by kernel_rfl) (by kernel_rfl) (by kernel_rfl) (fun _ _ _ h => h) (Or.inl ⟨by rfl, ?_⟩) (by assumption) ?_
        rotate_left 1
        · intro w hSw
          try dsimp only at hSw
          go_simp
          all_goals with_reducible rfl
        try simp only [Act.put, List.setIfInBounds_toArray, List.set_cons_succ, List.set_cons_zero]
        refine wpAnyH_take (i := 3) (oi := ⟨some 52, .indexAddr 94 (.tmp 50) (.tmp 51), 0, "ref.go:413", #[⟨1, .data⟩, ⟨2, .data⟩], none⟩) (v := ?_) rfl (by kernel_rfl) (by kernel_rfl) (by kernel_rfl) (fun _ _ _ h => h) (Or.inl ⟨by rfl, ?_⟩) (by assumption) ?_
        rotate_left 1
        · intro w hSw
          try dsimp only at hSw
          go_simp
          all_goals with_reducible rfl
        try simp only [Act.put, List.setIfInBounds_toArray, List.set_cons_succ, List.set_cons_zero]
        refine wpAnyH_take (i := 4) (oi := ⟨some 53, .load 147 (.tmp 52), 147, "ref.go:413", #[⟨3, .data⟩], none⟩) (v := ?_) rfl (by kernel_rfl) (by kernel_rfl) (by kernel_rfl) (fun _ _ _ h => h) (Or.inl ⟨by rfl, ?_⟩) (by assumption) ?_
        rotate_left 1
        · intro w hSw
          try dsimp only at hSw
          go_simp
          all_goals with_reducible rfl
        try simp only [Act.put, List.setIfInBounds_toArray, List.set_cons_succ, List.set_cons_zero]
        refine wpAnyH_take (i := 5) (oi := ⟨some 54, .fieldAddr 147 (.tmp 3) 4, 0, "ref.go:413", #[], none⟩) (v := ?_) rfl (by kernel_rfl) (by kernel_rfl) (by kernel_rfl) (fun _ _ _ h => h) (Or.inl ⟨by rfl, ?_⟩) (by assumption) ?_
        rotate_left 1
        · intro w hSw
          try dsimp only at hSw
          go_simp
          all_goals with_reducible rfl
        try simp only [Act.put, List.setIfInBounds_toArray, List.set_cons_succ, List.set_cons_zero]
        refine wpAnyH_take (i := 6) (oi := ⟨some 55, .load 94 (.tmp 54), 94, "ref.go:413", #[⟨5, .data⟩], none⟩) (v := ?_) rfl (by kernel_rfl) (by kernel_rfl) (by kernel_rfl) (fun _ _ _ h => h) (Or.inl ⟨by rfl, ?_⟩) (by assumption) ?_
        rotate_left 1
        · intro w hSw
          try dsimp only at hSw
          go_simp
          all_goals with_reducible rfl
        try simp only [Act.put, List.setIfInBounds_toArray, List.set_cons_succ, List.set_cons_zero]
        refine wpAnyH_take (i := 7) (oi := ⟨some 56, .move (.tmp 5), 3, "ref.go:413", #[], none⟩) (v := ?_) rfl (by kernel_rfl) (by kernel_rfl) (by kernel_rfl) (fun _ _ _ h => h) (Or.inl ⟨by rfl, ?_⟩) (by assumption) ?_
        rotate_left 1
        · intro w hSw
          try dsimp only at hSw
          go_simp
          all_goals with_reducible rfl
        try simp only [Act.put, List.setIfInBounds_toArray, List.set_cons_succ, List.set_cons_zero]
        refine wpAnyH_take (i := 8) (oi := ⟨some 57, .indexAddr 94 (.tmp 55) (.tmp 56), 0, "ref.go:413", #[⟨6, .data⟩, ⟨7, .data⟩], none⟩) (v := ?_) rfl (by kernel_rfl) (by kernel_rfl) (by kernel_rfl) (fun _ _ _ h => h) (Or.inl ⟨by rfl, ?_⟩) (by assumption) ?_
        rotate_left 1
        · intro w hSw
          try dsimp only at hSw
          go_simp
          all_goals with_reducible rfl
        try simp only [Act.put, List.setIfInBounds_toArray, List.set_cons_succ, List.set_cons_zero]
        refine wpAnyH_take (i := 9) (oi := ⟨some 58, .load 147 (.tmp 57), 147, "ref.go:413", #[⟨8, .data⟩], none⟩) (v := ?_) rfl (by kernel_rfl) (by kernel_rfl) (by kernel_rfl) (fun _ _ _ h => h) (Or.inl ⟨by rfl, ?_⟩) (by assumption) ?_
        rotate_left 1
        · intro w hSw
          try dsimp only at hSw
          go_simp
          all_goals with_reducible rfl
        try simp only [Act.put, List.setIfInBounds_toArray, List.set_cons_succ, List.set_cons_zero]
        refine wpAnyH_ready (rs := [10]) (by kernel_rfl) (by simp) ?_
        refine AllReadyH.cons (o := ⟨some 59, .call { callee := .value (.func 119), args := #[.tmp 53, .tmp 58], argTypes := #[147, 147] }, 4, "ref.go:413", #[⟨4, .data⟩, ⟨9, .data⟩], none⟩) rfl (fun K hK => ?_) AllReadyH.nil
        go_simp
        refine (HI.out.2.2.1 r HZ.out _ _ B3 p3 B4 p4 B3' p3' B4' p4' HR.out.drew HG5.out.1 HG5.out.2.1 HG5.out.2.2.1 HG5.out.2.2.2).mono ?_
        rintro e w3 ⟨rfl, h3⟩
        refine hK.out _ _ ?_ (fun hHeld => ?_)
        · exact ⟨⟨h3.two.cell 4 rfl, h3.cell 4 rfl⟩, HF.out _ h3.below⟩
        clear hK K
        try simp only [Act.put, List.setIfInBounds_toArray, List.set_cons_succ, List.set_cons_zero]
        refine wpAnyH_take (i := 11) (oi := ⟨some 60, .unOp .not 4 (.tmp 59), 4, "ref.go:413", #[⟨10, .data⟩], none⟩) (v := ?_) rfl (by kernel_rfl) (by kernel_rfl) (by kernel_rfl) (fun _ _ _ h => h) (Or.inl ⟨by rfl, ?_⟩) (by assumption) ?_
        rotate_left 1
        · intro w hSw
          try dsimp only at hSw
          go_simp
          all_goals with_reducible rfl
        try simp only [Act.put, List.setIfInBounds_toArray, List.set_cons_succ, List.set_cons_zero]
        refine wpAnyH_done (by kernel_rfl) ?_ _
        have HD := Lib.hid h3
        clear h3 hHeld HR
        go_wp2
        exact ⟨⟨x + 1, by omega, by omega, by go_num, HD⟩, by simp only [intOf]; omega⟩
      · have hlt' : (x < (v.f4.length : Int)) = False := eq_false hlt
        go_wp2
        go_ret
        exact ⟨rfl, HR.out.drop.drop⟩
theorem svalue_calls (v : Val) (A3 : Option Addr) (c3 : Nat) (A4 : Option Addr) (c4 : Nat) (A3' : Option Addr) (c3' : Nat) (A4' : Option Addr) (c4' : Nat) (h : S w0 w R) (h3 : Kd.string.C w0 A3 v.f3.length v.f3) (h3' : Kd.string.C w0 A3' v.f3.length v.f3) (h4 : kVal.C w0 A4 v.f4.length v.f4) (h4' : kVal.C w0 A4' v.f4.length v.f4) :
    Calls Try.prog 119 #[.agg #[.int .i64 v.f0, .int .i64 v.f1, .string v.f2, .slice A3 v.f3.length c3, .slice A4 v.f4.length c4], .agg #[.int .i64 v.f0, .int .i64 v.f1, .string v.f2, .slice A3' v.f3.length c3', .slice A4' v.f4.length c4']] w fun e w' => e = .returned (.bool true) ∧ S w0 w' R :=
  sval_at _ v (Nat.lt_succ_self _) w R A3 c3 A4 c4 A3' c3' A4' c4' h h3 h3' h4 h4'
end Go.Proofs.Ytbjddomocggjmaa.Sc
end
