/- The reference's types, walked. -/
import Derived.Test.YtbjddomocggjmaaFcKK
import Derived.Deep.RegionHeld3
namespace Go.Proofs.Ytbjddomocggjmaa.Fc
open Go.RowKit Go.ChangeShapes Go.WideShapes Go.Proofs.Ytbjddomocggjmaa.Sep
open Go.Proofs.YtbjddomocggjmaaW.PrintWords
variable {w0 w : World} {R : HP}

theorem st_after {B : Nat} {w' : World} (h : St B w0 w R) (hb : Below w.heap.size w w') : St B w0 w' R := by
  obtain ⟨h1, h2, F, h3, h4⟩ := h
  exact ⟨h1.trans (hb.mono h2), Nat.le_trans h2 hb.size, F, fun b hF => ⟨(h3 b hF).1, Nat.lt_of_lt_of_le (h3 b hF).2 hb.size⟩, R.loc h4 fun b hF => hb.block b (h3 b hF).2⟩
theorem sorts_calls (A : Option Addr) (c : Nat) (l : List Arg) (h : S w0 w R) (hC : CA w0 A l) (hc : l.length ≤ c) (hl : l.length ≤ M) :
    Calls Try.prog 64 #[.slice A l.length c] w fun e w' => e = .returned (.string (sortsS l)) ∧ S w0 w' R := by
  obtain ⟨k, hk⟩ := (sorts_f l hl).rounds
  exact (PFragcheckChecks.spandrelref20_sorts.calls k A c l _ w (Kd.C_below hC h.below) hc hk).mono fun _ _ ⟨h1, h2⟩ => ⟨h1, st_after h h2⟩
theorem right_calls (s : Stmt) (h : S w0 w R) (hl : s.f2.length ≤ M) (h2 : s.f0 ≠ 2) :
    Calls Try.prog 63 #[.int .i64 s.f0, .string s.f1, .string (sortsS s.f2)] w fun e w' => e = .returned (.bool (typedB s)) ∧ S w0 w' R := by
  obtain ⟨k, hk⟩ := (rightS_f s hl h2).rounds
  exact (PFragcheckChecks.spandrelref20_right.calls k _ _ _ _ w hk).mono fun _ _ ⟨h1, h2⟩ => ⟨h1, st_drawn h h2⟩
theorem q3 {α : Type} : (∀ (l : List α) (i : Nat) (a : α), l.toArray.setIfInBounds i a = (l.set i a).toArray) ∧ (∀ (x a : α) (xs : List α), (x :: xs).set 0 a = a :: xs) ∧ ∀ (x a : α) (xs : List α) (n : Nat), (x :: xs).set (n + 1) a = x :: xs.set n a :=
  ⟨fun _ _ _ => List.setIfInBounds_toArray .., fun _ _ _ => List.set_cons_zero, fun _ _ _ _ => List.set_cons_succ⟩
set_option maxHeartbeats 8000000 in
set_option maxRecDepth 100000 in
theorem types_step (l : List Stmt) (hl : l.length ≤ M) (ho : ∀ x ∈ l, ∀ d, okS d x)
    (ih : ∀ l' : List Stmt, SizeOf.sizeOf l' < SizeOf.sizeOf l → ∀ (W : World) (Q : HP) (A : Option Addr) (c : Nat), S w0 W Q → CS w0 A l' → l'.length ≤ M → (∀ x ∈ l', ∀ d, okS d x) → Calls Try.prog 37 #[.slice A l'.length c] W fun e w' => e = .returned (.bool (allB typedB l')) ∧ S w0 w' Q)
    (A : Option Addr) (c : Nat) (h : S w0 w R) (hC : CS w0 A l) :
    Calls Try.prog 37 #[.slice A l.length c] w fun e w' => e = .returned (.bool (allB typedB l)) ∧ S w0 w' R := by
  have H := Lib.hid (And.intro h hC)
  have HI := Lib.hid (And.intro ih ho)
  have hl2 : l.length ≤ 140737488351232 := hl
  clear h hC ih ho hl
  go_enter Try.func37, Try.ntmps37
  go_wp2
  go_loopw [3] (fun v wr => ∃ x : Int, 0 ≤ x ∧ x ≤ l.length ∧ v = .int .i64 x ∧ Hid (S w0 wr R) ∧ Hid (allB typedB (l.drop x.toNat) = allB typedB l)) (fun v _ => l.length - (intOf v).toNat)
  case atStart => exact ⟨0, Int.le_refl _, by omega, rfl, Lib.hid H.out.1, Lib.hid rfl⟩
  case round =>
    obtain ⟨x, hx0, hx1, rfl, HS, HN⟩ := hrel
    by_cases hlt : x < l.length
    · obtain ⟨ad, cs, rfl, hcl, hK, hcell0⟩ := Kd.C_get H.out.2 PFragcheckChecks.z32 x hx0 hlt
      have hcell : ∀ j u, cs[j]? = some u → w0.cell? (ad.add (x.toNat * 5 + j)) = some u := hcell0
      clear hcell0
      have HR := Lib.hid (getD_mem l PFragcheckChecks.z32 x hx0 hlt)
      obtain ⟨A2, c2, A3, c3, A4, c4, rfl, g2, k2, g3, k3, g4, k4⟩ := PFragcheckChecks.k32_open (id hK)
      generalize l.getD x.toNat PFragcheckChecks.z32 = s at *
      have hs := List.mem_of_getElem? HR.out
      have HC5 : Hid (∀ (w' : World) (Q : HP), S w0 w' Q → w'.cell? (ad.add (x.toNat * 5)) = some (.int .i64 s.f0) ∧ w'.cell? ⟨(ad.add (x.toNat * 5)).block, (ad.add (x.toNat * 5)).off + 1, none⟩ = some (.string s.f1) ∧ w'.cell? ⟨(ad.add (x.toNat * 5)).block, (ad.add (x.toNat * 5)).off + 2, none⟩ = some (.slice A2 s.f2.length c2) ∧ w'.cell? ⟨(ad.add (x.toNat * 5)).block, (ad.add (x.toNat * 5)).off + 3, none⟩ = some (.slice A3 s.f3.length c3) ∧ w'.cell? ⟨(ad.add (x.toNat * 5)).block, (ad.add (x.toNat * 5)).off + 4, none⟩ = some (.slice A4 s.f4.length c4)) := Lib.hid fun W Q hW =>
        ⟨pw_cell_below hW.below (hcell 0 _ rfl), by rw [← add_field _ _ 1 (by omega)]; exact pw_cell_below hW.below (hcell 1 _ rfl), by rw [← add_field _ _ 2 (by omega)]; exact pw_cell_below hW.below (hcell 2 _ rfl), by rw [← add_field _ _ 3 (by omega)]; exact pw_cell_below hW.below (hcell 3 _ rfl), by rw [← add_field _ _ 4 (by omega)]; exact pw_cell_below hW.below (hcell 4 _ rfl)⟩
      obtain ⟨d0, d1, d2, d3, d4⟩ := HC5.out _ _ HS.out
      have HA := Lib.hid (And.intro k2 (And.intro g2 (And.intro (HI.out.2 s hs 1).2.2.1 (And.intro k3 (And.intro (HI.out.2 s hs 1).2.2.2.1 (And.intro k4 (HI.out.2 s hs 1).2.2.2.2.1))))))
      have H3 := Lib.hid (And.intro (HI.out.1 s.f3 (size3 hs)) (And.intro (HI.out.1 s.f4 (size4 hs)) (And.intro (fun x hx => okS_3 (x := x) (HI.out.2 s hs) hx) (fun x hx => okS_4 (x := x) (HI.out.2 s hs) hx))))
      have HD : Hid (allB typedB (l.drop x.toNat) = (typedB s && allB typedB s.f3 && allB typedB s.f4 && allB typedB (l.drop (x + 1).toNat))) := Lib.hid (by
        have e1 : (x + 1).toNat = x.toNat + 1 := by omega
        obtain ⟨hk, ek⟩ := List.getElem?_eq_some_iff.1 HR.out
        rw [e1, List.drop_eq_getElem_cons hk, ek, allB])
      clear hcell hK hcl g2 k2 g3 k3 g4 k4 hs
      have p126 := eq_true hx0
      have q126 : (x < (l.length : Int)) = True := eq_true hlt
      by_cases q0 : s.f0 = 2
      · have q0b : (s.f0 != 2) = false := by rw [q0]; rfl
        have HT2 : Hid (typedB s = true) := Lib.hid (by unfold typedB; rw [if_pos q0])
        clear q0
        cases hf3 : allB typedB s.f3 with
        | false =>
          have HF3 := Lib.hid hf3
          have HV : Hid (allB typedB l = false) := Lib.hid (by rw [← HN.out, HD.out, HT2.out, hf3]; rfl)
          clear hf3
          go_wp2_with fail
          refine wp_region_held_drew (S := (fun w' => w'.cell? (ad.add (x.toNat * 5)) = some (.int .i64 s.f0) ∧ w'.cell? ⟨(ad.add (x.toNat * 5)).block, (ad.add (x.toNat * 5)).off + 1, none⟩ = some (.string s.f1) ∧ w'.cell? ⟨(ad.add (x.toNat * 5)).block, (ad.add (x.toNat * 5)).off + 2, none⟩ = some (.slice A2 s.f2.length c2) ∧ w'.cell? ⟨(ad.add (x.toNat * 5)).block, (ad.add (x.toNat * 5)).off + 3, none⟩ = some (.slice A3 s.f3.length c3) ∧ w'.cell? ⟨(ad.add (x.toNat * 5)).block, (ad.add (x.toNat * 5)).off + 4, none⟩ = some (.slice A4 s.f4.length c4))) (by kernel_rfl) ?_ (fun hHeld => ?_)
          · exact ⟨d0, d1, d2, d3, d4⟩
          refine wpAnyH_take (i := 0) (oi := ⟨some 10, .move (.tmp 0), 30, "ref.go:89", #[], none⟩) (v := ?_) rfl (by kernel_rfl) (by kernel_rfl) (by kernel_rfl) (fun _ _ _ h => h) (Or.inl ⟨by rfl, ?_⟩) (by assumption) ?_; rotate_left 1; · (intro w _; go_simp; all_goals with_reducible rfl)
          try simp only [Act.put, q3]
          refine wpAnyH_take (i := 1) (oi := ⟨some 11, .move (.tmp 3), 3, "ref.go:89", #[], none⟩) (v := ?_) rfl (by kernel_rfl) (by kernel_rfl) (by kernel_rfl) (fun _ _ _ h => h) (Or.inl ⟨by rfl, ?_⟩) (by assumption) ?_; rotate_left 1; · (intro w _; go_simp; all_goals with_reducible rfl)
          try simp only [Act.put, q3]
          refine wpAnyH_take (i := 2) (oi := ⟨some 12, .indexAddr 30 (.tmp 10) (.tmp 11), 0, "ref.go:89", #[⟨0, .data⟩, ⟨1, .data⟩], none⟩) (v := ?_) rfl (by kernel_rfl) (by kernel_rfl) (by kernel_rfl) (fun _ _ _ h => h) (Or.inl ⟨by rfl, ?_⟩) (by assumption) ?_; rotate_left 1; · (intro w _; go_simp; all_goals with_reducible rfl)
          try simp only [Act.put, q3]
          refine wpAnyH_take (i := 3) (oi := ⟨some 13, .fieldAddr 32 (.tmp 12) 0, 0, "ref.go:89", #[⟨2, .data⟩], none⟩) (v := ?_) rfl (by kernel_rfl) (by kernel_rfl) (by kernel_rfl) (fun _ _ _ h => h) (Or.inl ⟨by rfl, ?_⟩) (by assumption) ?_; rotate_left 1; · (intro w _; go_simp; all_goals with_reducible rfl)
          try simp only [Act.put, q3]
          refine wpAnyH_take (i := 4) (oi := ⟨some 14, .load 3 (.tmp 13), 3, "ref.go:89", #[⟨3, .data⟩], none⟩) (v := ?_) rfl (by kernel_rfl) (by kernel_rfl) (by kernel_rfl) (fun _ _ _ h => h) (Or.inl ⟨by rfl, ?_⟩) (by assumption) ?_; rotate_left 1; · (intro w hSw; (try dsimp only at hSw); go_simp; all_goals with_reducible rfl)
          try simp only [Act.put, q3]
          refine wpAnyH_take (i := 5) (oi := ⟨some 15, .binOp .neq 3 (.tmp 14) (.const (.int .i64 2)) 3, 4, "ref.go:89", #[⟨4, .data⟩], none⟩) (v := ?_) rfl (by kernel_rfl) (by kernel_rfl) (by kernel_rfl) (fun _ _ _ h => h) (Or.inl ⟨by rfl, ?_⟩) (by assumption) ?_; rotate_left 1; · (intro w _; go_simp; all_goals with_reducible rfl)
          try simp only [Act.put, q3]
          refine wpAnyH_take (i := 6) (oi := ⟨some 16, .move (.tmp 15), 4, "ref.go:89", #[⟨5, .data⟩], none⟩) (v := ?_) rfl (by kernel_rfl) (by kernel_rfl) (by kernel_rfl) (fun _ _ _ h => h) (Or.inl ⟨by rfl, ?_⟩) (by assumption) ?_; rotate_left 1; · (intro w _; go_simp; all_goals with_reducible rfl)
          try simp only [Act.put, q3]
          refine wpAnyH_take (i := 7) (oi := ⟨some 17, .move (.tmp 0), 30, "ref.go:89", #[⟨6, .guard⟩], some (6, true)⟩) (v := undef) rfl (by kernel_rfl) (by kernel_rfl) (by kernel_rfl) (fun _ _ _ h => h) (Or.inr ⟨by rfl, rfl⟩) (by assumption) ?_
          try simp only [Act.put, q3]
          refine wpAnyH_take (i := 8) (oi := ⟨some 18, .move (.tmp 3), 3, "ref.go:89", #[⟨6, .guard⟩], some (6, true)⟩) (v := undef) rfl (by kernel_rfl) (by kernel_rfl) (by kernel_rfl) (fun _ _ _ h => h) (Or.inr ⟨by rfl, rfl⟩) (by assumption) ?_
          try simp only [Act.put, q3]
          refine wpAnyH_take (i := 9) (oi := ⟨some 19, .indexAddr 30 (.tmp 17) (.tmp 18), 0, "ref.go:89", #[⟨7, .data⟩, ⟨8, .data⟩, ⟨6, .guard⟩], some (6, true)⟩) (v := undef) rfl (by kernel_rfl) (by kernel_rfl) (by kernel_rfl) (fun _ _ _ h => h) (Or.inr ⟨by rfl, rfl⟩) (by assumption) ?_
          try simp only [Act.put, q3]
          refine wpAnyH_take (i := 10) (oi := ⟨some 20, .fieldAddr 32 (.tmp 19) 0, 0, "ref.go:89", #[⟨9, .data⟩, ⟨6, .guard⟩], some (6, true)⟩) (v := undef) rfl (by kernel_rfl) (by kernel_rfl) (by kernel_rfl) (fun _ _ _ h => h) (Or.inr ⟨by rfl, rfl⟩) (by assumption) ?_
          try simp only [Act.put, q3]
          refine wpAnyH_take (i := 11) (oi := ⟨some 21, .load 3 (.tmp 20), 3, "ref.go:89", #[⟨10, .data⟩, ⟨6, .guard⟩], some (6, true)⟩) (v := undef) rfl (by kernel_rfl) (by kernel_rfl) (by kernel_rfl) (fun _ _ _ h => h) (Or.inr ⟨by rfl, rfl⟩) (by assumption) ?_
          try simp only [Act.put, q3]
          refine wpAnyH_take (i := 12) (oi := ⟨some 22, .move (.tmp 0), 30, "ref.go:89", #[⟨6, .guard⟩], some (6, true)⟩) (v := undef) rfl (by kernel_rfl) (by kernel_rfl) (by kernel_rfl) (fun _ _ _ h => h) (Or.inr ⟨by rfl, rfl⟩) (by assumption) ?_
          try simp only [Act.put, q3]
          refine wpAnyH_take (i := 13) (oi := ⟨some 23, .move (.tmp 3), 3, "ref.go:89", #[⟨6, .guard⟩], some (6, true)⟩) (v := undef) rfl (by kernel_rfl) (by kernel_rfl) (by kernel_rfl) (fun _ _ _ h => h) (Or.inr ⟨by rfl, rfl⟩) (by assumption) ?_
          try simp only [Act.put, q3]
          refine wpAnyH_take (i := 14) (oi := ⟨some 24, .indexAddr 30 (.tmp 22) (.tmp 23), 0, "ref.go:89", #[⟨12, .data⟩, ⟨13, .data⟩, ⟨6, .guard⟩], some (6, true)⟩) (v := undef) rfl (by kernel_rfl) (by kernel_rfl) (by kernel_rfl) (fun _ _ _ h => h) (Or.inr ⟨by rfl, rfl⟩) (by assumption) ?_
          try simp only [Act.put, q3]
          refine wpAnyH_take (i := 15) (oi := ⟨some 25, .fieldAddr 32 (.tmp 24) 1, 0, "ref.go:89", #[⟨14, .data⟩, ⟨6, .guard⟩], some (6, true)⟩) (v := undef) rfl (by kernel_rfl) (by kernel_rfl) (by kernel_rfl) (fun _ _ _ h => h) (Or.inr ⟨by rfl, rfl⟩) (by assumption) ?_
          try simp only [Act.put, q3]
          refine wpAnyH_take (i := 16) (oi := ⟨some 26, .load 9 (.tmp 25), 9, "ref.go:89", #[⟨15, .data⟩, ⟨6, .guard⟩], some (6, true)⟩) (v := undef) rfl (by kernel_rfl) (by kernel_rfl) (by kernel_rfl) (fun _ _ _ h => h) (Or.inr ⟨by rfl, rfl⟩) (by assumption) ?_
          try simp only [Act.put, q3]
          refine wpAnyH_take (i := 17) (oi := ⟨some 27, .move (.tmp 0), 30, "ref.go:89", #[⟨6, .guard⟩], some (6, true)⟩) (v := undef) rfl (by kernel_rfl) (by kernel_rfl) (by kernel_rfl) (fun _ _ _ h => h) (Or.inr ⟨by rfl, rfl⟩) (by assumption) ?_
          try simp only [Act.put, q3]
          refine wpAnyH_take (i := 18) (oi := ⟨some 28, .move (.tmp 3), 3, "ref.go:89", #[⟨6, .guard⟩], some (6, true)⟩) (v := undef) rfl (by kernel_rfl) (by kernel_rfl) (by kernel_rfl) (fun _ _ _ h => h) (Or.inr ⟨by rfl, rfl⟩) (by assumption) ?_
          try simp only [Act.put, q3]
          refine wpAnyH_take (i := 19) (oi := ⟨some 29, .indexAddr 30 (.tmp 27) (.tmp 28), 0, "ref.go:89", #[⟨17, .data⟩, ⟨18, .data⟩, ⟨6, .guard⟩], some (6, true)⟩) (v := undef) rfl (by kernel_rfl) (by kernel_rfl) (by kernel_rfl) (fun _ _ _ h => h) (Or.inr ⟨by rfl, rfl⟩) (by assumption) ?_
          try simp only [Act.put, q3]
          refine wpAnyH_take (i := 20) (oi := ⟨some 30, .fieldAddr 32 (.tmp 29) 2, 0, "ref.go:89", #[⟨19, .data⟩, ⟨6, .guard⟩], some (6, true)⟩) (v := undef) rfl (by kernel_rfl) (by kernel_rfl) (by kernel_rfl) (fun _ _ _ h => h) (Or.inr ⟨by rfl, rfl⟩) (by assumption) ?_
          try simp only [Act.put, q3]
          refine wpAnyH_take (i := 21) (oi := ⟨some 31, .load 29 (.tmp 30), 29, "ref.go:89", #[⟨20, .data⟩, ⟨6, .guard⟩], some (6, true)⟩) (v := undef) rfl (by kernel_rfl) (by kernel_rfl) (by kernel_rfl) (fun _ _ _ h => h) (Or.inr ⟨by rfl, rfl⟩) (by assumption) ?_
          try simp only [Act.put, q3]
          refine wpAnyH_take (i := 22) (oi := ⟨some 32, .call { callee := .value (.func 64), args := #[.tmp 31], argTypes := #[29] }, 9, "ref.go:89", #[⟨21, .data⟩, ⟨6, .chain⟩, ⟨6, .guard⟩], some (6, true)⟩) (v := undef) rfl (by kernel_rfl) (by kernel_rfl) (by kernel_rfl) (fun _ _ _ h => h) (Or.inr ⟨by rfl, rfl⟩) (by assumption) ?_
          try simp only [Act.put, q3]
          refine wpAnyH_take (i := 23) (oi := ⟨some 33, .call { callee := .value (.func 63), args := #[.tmp 21, .tmp 26, .tmp 32], argTypes := #[3, 9, 9] }, 4, "ref.go:89", #[⟨11, .data⟩, ⟨16, .data⟩, ⟨22, .data⟩, ⟨22, .chain⟩, ⟨6, .guard⟩], some (6, true)⟩) (v := undef) rfl (by kernel_rfl) (by kernel_rfl) (by kernel_rfl) (fun _ _ _ h => h) (Or.inr ⟨by rfl, rfl⟩) (by assumption) ?_
          try simp only [Act.put, q3]
          refine wpAnyH_take (i := 24) (oi := ⟨some 34, .unOp .not 4 (.tmp 33), 4, "ref.go:89", #[⟨23, .data⟩, ⟨6, .guard⟩], some (6, true)⟩) (v := undef) rfl (by kernel_rfl) (by kernel_rfl) (by kernel_rfl) (fun _ _ _ h => h) (Or.inr ⟨by rfl, rfl⟩) (by assumption) ?_
          try simp only [Act.put, q3]
          refine wpAnyH_take (i := 25) (oi := ⟨some 35, .pick (.tmp 16) (.tmp 34) (.const (.bool false)), 4, "ref.go:89", #[⟨6, .data⟩, ⟨24, .data⟩], none⟩) (v := ?_) rfl (by kernel_rfl) (by kernel_rfl) (by kernel_rfl) (fun _ _ _ h => h) (Or.inl ⟨by rfl, ?_⟩) (by assumption) ?_; rotate_left 1; · (intro w _; go_simp; all_goals with_reducible rfl)
          try simp only [Act.put, q3]
          refine wpAnyH_take (i := 26) (oi := ⟨some 36, .move (.tmp 35), 4, "ref.go:89", #[⟨25, .data⟩, ⟨23, .chain⟩], none⟩) (v := ?_) rfl (by kernel_rfl) (by kernel_rfl) (by kernel_rfl) (fun _ _ _ h => h) (Or.inl ⟨by rfl, ?_⟩) (by assumption) ?_; rotate_left 1; · (intro w _; go_simp; all_goals with_reducible rfl)
          try simp only [Act.put, q3]
          refine wpAnyH_take (i := 27) (oi := ⟨some 37, .move (.tmp 0), 30, "ref.go:89", #[⟨26, .guard⟩], some (26, false)⟩) (v := ?_) rfl (by kernel_rfl) (by kernel_rfl) (by kernel_rfl) (fun _ _ _ h => h) (Or.inl ⟨by rfl, ?_⟩) (by assumption) ?_; rotate_left 1; · (intro w _; go_simp; all_goals with_reducible rfl)
          try simp only [Act.put, q3]
          refine wpAnyH_take (i := 28) (oi := ⟨some 38, .move (.tmp 3), 3, "ref.go:89", #[⟨26, .guard⟩], some (26, false)⟩) (v := ?_) rfl (by kernel_rfl) (by kernel_rfl) (by kernel_rfl) (fun _ _ _ h => h) (Or.inl ⟨by rfl, ?_⟩) (by assumption) ?_; rotate_left 1; · (intro w _; go_simp; all_goals with_reducible rfl)
          try simp only [Act.put, q3]
          refine wpAnyH_take (i := 29) (oi := ⟨some 39, .indexAddr 30 (.tmp 37) (.tmp 38), 0, "ref.go:89", #[⟨27, .data⟩, ⟨28, .data⟩, ⟨26, .guard⟩], some (26, false)⟩) (v := ?_) rfl (by kernel_rfl) (by kernel_rfl) (by kernel_rfl) (fun _ _ _ h => h) (Or.inl ⟨by rfl, ?_⟩) (by assumption) ?_; rotate_left 1; · (intro w _; go_simp; all_goals with_reducible rfl)
          try simp only [Act.put, q3]
          refine wpAnyH_take (i := 30) (oi := ⟨some 40, .fieldAddr 32 (.tmp 39) 3, 0, "ref.go:89", #[⟨29, .data⟩, ⟨26, .guard⟩], some (26, false)⟩) (v := ?_) rfl (by kernel_rfl) (by kernel_rfl) (by kernel_rfl) (fun _ _ _ h => h) (Or.inl ⟨by rfl, ?_⟩) (by assumption) ?_; rotate_left 1; · (intro w _; go_simp; all_goals with_reducible rfl)
          try simp only [Act.put, q3]
          refine wpAnyH_take (i := 31) (oi := ⟨some 41, .load 30 (.tmp 40), 30, "ref.go:89", #[⟨30, .data⟩, ⟨26, .guard⟩], some (26, false)⟩) (v := ?_) rfl (by kernel_rfl) (by kernel_rfl) (by kernel_rfl) (fun _ _ _ h => h) (Or.inl ⟨by rfl, ?_⟩) (by assumption) ?_; rotate_left 1; · (intro w hSw; (try dsimp only at hSw); go_simp; all_goals with_reducible rfl)
          try simp only [Act.put, q3]
          refine wpAnyH_ready (rs := [32]) (by kernel_rfl) (by simp) ?_
          refine AllReadyH.cons (o := ⟨some 42, .call { callee := .value (.func 37), args := #[.tmp 41], argTypes := #[30] }, 4, "ref.go:89", #[⟨31, .data⟩, ⟨26, .chain⟩, ⟨26, .guard⟩], some (26, false)⟩) rfl (fun K hK => ?_) AllReadyH.nil
          go_simp
          go_at_call 37
          refine (H3.out.1 _ _ A3 c3 HS.out.drew HA.out.2.2.2.1 HA.out.2.2.2.2.1 H3.out.2.2.1).mono ?_
          rintro e w2 ⟨rfl, h2⟩
          rw [HF3.out]
          refine hK.out _ _ ?_ (fun hHeld => ?_)
          · exact HC5.out _ _ h2
          clear hK K
          try simp only [Act.put, q3]
          refine wpAnyH_take (i := 33) (oi := ⟨some 43, .unOp .not 4 (.tmp 42), 4, "ref.go:89", #[⟨32, .data⟩, ⟨26, .guard⟩], some (26, false)⟩) (v := ?_) rfl (by kernel_rfl) (by kernel_rfl) (by kernel_rfl) (fun _ _ _ h => h) (Or.inl ⟨by rfl, ?_⟩) (by assumption) ?_; rotate_left 1; · (intro w _; go_simp; all_goals with_reducible rfl)
          try simp only [Act.put, q3]
          refine wpAnyH_take (i := 34) (oi := ⟨some 44, .pick (.tmp 36) (.const (.bool true)) (.tmp 43), 4, "ref.go:89", #[⟨26, .data⟩, ⟨33, .data⟩], none⟩) (v := ?_) rfl (by kernel_rfl) (by kernel_rfl) (by kernel_rfl) (fun _ _ _ h => h) (Or.inl ⟨by rfl, ?_⟩) (by assumption) ?_; rotate_left 1; · (intro w _; go_simp; all_goals with_reducible rfl)
          try simp only [Act.put, q3]
          refine wpAnyH_take (i := 35) (oi := ⟨some 45, .move (.tmp 44), 4, "ref.go:89", #[⟨34, .data⟩, ⟨32, .chain⟩], none⟩) (v := ?_) rfl (by kernel_rfl) (by kernel_rfl) (by kernel_rfl) (fun _ _ _ h => h) (Or.inl ⟨by rfl, ?_⟩) (by assumption) ?_; rotate_left 1; · (intro w _; go_simp; all_goals with_reducible rfl)
          try simp only [Act.put, q3]
          refine wpAnyH_take (i := 36) (oi := ⟨some 46, .move (.tmp 0), 30, "ref.go:89", #[⟨35, .guard⟩], some (35, false)⟩) (v := undef) rfl (by kernel_rfl) (by kernel_rfl) (by kernel_rfl) (fun _ _ _ h => h) (Or.inr ⟨by rfl, rfl⟩) (by assumption) ?_
          try simp only [Act.put, q3]
          refine wpAnyH_take (i := 37) (oi := ⟨some 47, .move (.tmp 3), 3, "ref.go:89", #[⟨35, .guard⟩], some (35, false)⟩) (v := undef) rfl (by kernel_rfl) (by kernel_rfl) (by kernel_rfl) (fun _ _ _ h => h) (Or.inr ⟨by rfl, rfl⟩) (by assumption) ?_
          try simp only [Act.put, q3]
          refine wpAnyH_take (i := 38) (oi := ⟨some 48, .indexAddr 30 (.tmp 46) (.tmp 47), 0, "ref.go:89", #[⟨36, .data⟩, ⟨37, .data⟩, ⟨35, .guard⟩], some (35, false)⟩) (v := undef) rfl (by kernel_rfl) (by kernel_rfl) (by kernel_rfl) (fun _ _ _ h => h) (Or.inr ⟨by rfl, rfl⟩) (by assumption) ?_
          try simp only [Act.put, q3]
          refine wpAnyH_take (i := 39) (oi := ⟨some 49, .fieldAddr 32 (.tmp 48) 4, 0, "ref.go:89", #[⟨38, .data⟩, ⟨35, .guard⟩], some (35, false)⟩) (v := undef) rfl (by kernel_rfl) (by kernel_rfl) (by kernel_rfl) (fun _ _ _ h => h) (Or.inr ⟨by rfl, rfl⟩) (by assumption) ?_
          try simp only [Act.put, q3]
          refine wpAnyH_take (i := 40) (oi := ⟨some 50, .load 30 (.tmp 49), 30, "ref.go:89", #[⟨39, .data⟩, ⟨35, .guard⟩], some (35, false)⟩) (v := undef) rfl (by kernel_rfl) (by kernel_rfl) (by kernel_rfl) (fun _ _ _ h => h) (Or.inr ⟨by rfl, rfl⟩) (by assumption) ?_
          try simp only [Act.put, q3]
          refine wpAnyH_take (i := 41) (oi := ⟨some 51, .call { callee := .value (.func 37), args := #[.tmp 50], argTypes := #[30] }, 4, "ref.go:89", #[⟨40, .data⟩, ⟨35, .chain⟩, ⟨35, .guard⟩], some (35, false)⟩) (v := undef) rfl (by kernel_rfl) (by kernel_rfl) (by kernel_rfl) (fun _ _ _ h => h) (Or.inr ⟨by rfl, rfl⟩) (by assumption) ?_
          try simp only [Act.put, q3]
          refine wpAnyH_take (i := 42) (oi := ⟨some 52, .unOp .not 4 (.tmp 51), 4, "ref.go:89", #[⟨41, .data⟩, ⟨35, .guard⟩], some (35, false)⟩) (v := undef) rfl (by kernel_rfl) (by kernel_rfl) (by kernel_rfl) (fun _ _ _ h => h) (Or.inr ⟨by rfl, rfl⟩) (by assumption) ?_
          try simp only [Act.put, q3]
          refine wpAnyH_take (i := 43) (oi := ⟨some 53, .pick (.tmp 45) (.const (.bool true)) (.tmp 52), 4, "ref.go:89", #[⟨35, .data⟩, ⟨42, .data⟩], none⟩) (v := ?_) rfl (by kernel_rfl) (by kernel_rfl) (by kernel_rfl) (fun _ _ _ h => h) (Or.inl ⟨by rfl, ?_⟩) (by assumption) ?_; rotate_left 1; · (intro w _; go_simp; all_goals with_reducible rfl)
          try simp only [Act.put, q3]
          refine wpAnyH_done (by kernel_rfl) ?_ _
          have HL := Lib.hid h2
          clear d0 d1 d2 d3 d4
          go_wp2
          go_ret
          exact ⟨by rw [HV.out]; rfl, HL.out⟩
        | true =>
          have HF3 := Lib.hid hf3
          cases hf4 : allB typedB s.f4 with
          | false =>
            have HF4 := Lib.hid hf4
            have HV : Hid (allB typedB l = false) := Lib.hid (by rw [← HN.out, HD.out, HT2.out, hf3, hf4]; rfl)
            clear hf3 hf4
            go_wp2_with fail
            refine wp_region_held_drew (S := (fun w' => w'.cell? (ad.add (x.toNat * 5)) = some (.int .i64 s.f0) ∧ w'.cell? ⟨(ad.add (x.toNat * 5)).block, (ad.add (x.toNat * 5)).off + 1, none⟩ = some (.string s.f1) ∧ w'.cell? ⟨(ad.add (x.toNat * 5)).block, (ad.add (x.toNat * 5)).off + 2, none⟩ = some (.slice A2 s.f2.length c2) ∧ w'.cell? ⟨(ad.add (x.toNat * 5)).block, (ad.add (x.toNat * 5)).off + 3, none⟩ = some (.slice A3 s.f3.length c3) ∧ w'.cell? ⟨(ad.add (x.toNat * 5)).block, (ad.add (x.toNat * 5)).off + 4, none⟩ = some (.slice A4 s.f4.length c4))) (by kernel_rfl) ?_ (fun hHeld => ?_)
            · exact ⟨d0, d1, d2, d3, d4⟩
            refine wpAnyH_take (i := 0) (oi := ⟨some 10, .move (.tmp 0), 30, "ref.go:89", #[], none⟩) (v := ?_) rfl (by kernel_rfl) (by kernel_rfl) (by kernel_rfl) (fun _ _ _ h => h) (Or.inl ⟨by rfl, ?_⟩) (by assumption) ?_; rotate_left 1; · (intro w _; go_simp; all_goals with_reducible rfl)
            try simp only [Act.put, q3]
            refine wpAnyH_take (i := 1) (oi := ⟨some 11, .move (.tmp 3), 3, "ref.go:89", #[], none⟩) (v := ?_) rfl (by kernel_rfl) (by kernel_rfl) (by kernel_rfl) (fun _ _ _ h => h) (Or.inl ⟨by rfl, ?_⟩) (by assumption) ?_; rotate_left 1; · (intro w _; go_simp; all_goals with_reducible rfl)
            try simp only [Act.put, q3]
            refine wpAnyH_take (i := 2) (oi := ⟨some 12, .indexAddr 30 (.tmp 10) (.tmp 11), 0, "ref.go:89", #[⟨0, .data⟩, ⟨1, .data⟩], none⟩) (v := ?_) rfl (by kernel_rfl) (by kernel_rfl) (by kernel_rfl) (fun _ _ _ h => h) (Or.inl ⟨by rfl, ?_⟩) (by assumption) ?_; rotate_left 1; · (intro w _; go_simp; all_goals with_reducible rfl)
            try simp only [Act.put, q3]
            refine wpAnyH_take (i := 3) (oi := ⟨some 13, .fieldAddr 32 (.tmp 12) 0, 0, "ref.go:89", #[⟨2, .data⟩], none⟩) (v := ?_) rfl (by kernel_rfl) (by kernel_rfl) (by kernel_rfl) (fun _ _ _ h => h) (Or.inl ⟨by rfl, ?_⟩) (by assumption) ?_; rotate_left 1; · (intro w _; go_simp; all_goals with_reducible rfl)
            try simp only [Act.put, q3]
            refine wpAnyH_take (i := 4) (oi := ⟨some 14, .load 3 (.tmp 13), 3, "ref.go:89", #[⟨3, .data⟩], none⟩) (v := ?_) rfl (by kernel_rfl) (by kernel_rfl) (by kernel_rfl) (fun _ _ _ h => h) (Or.inl ⟨by rfl, ?_⟩) (by assumption) ?_; rotate_left 1; · (intro w hSw; (try dsimp only at hSw); go_simp; all_goals with_reducible rfl)
            try simp only [Act.put, q3]
            refine wpAnyH_take (i := 5) (oi := ⟨some 15, .binOp .neq 3 (.tmp 14) (.const (.int .i64 2)) 3, 4, "ref.go:89", #[⟨4, .data⟩], none⟩) (v := ?_) rfl (by kernel_rfl) (by kernel_rfl) (by kernel_rfl) (fun _ _ _ h => h) (Or.inl ⟨by rfl, ?_⟩) (by assumption) ?_; rotate_left 1; · (intro w _; go_simp; all_goals with_reducible rfl)
            try simp only [Act.put, q3]
            refine wpAnyH_take (i := 6) (oi := ⟨some 16, .move (.tmp 15), 4, "ref.go:89", #[⟨5, .data⟩], none⟩) (v := ?_) rfl (by kernel_rfl) (by kernel_rfl) (by kernel_rfl) (fun _ _ _ h => h) (Or.inl ⟨by rfl, ?_⟩) (by assumption) ?_; rotate_left 1; · (intro w _; go_simp; all_goals with_reducible rfl)
            try simp only [Act.put, q3]
            refine wpAnyH_take (i := 7) (oi := ⟨some 17, .move (.tmp 0), 30, "ref.go:89", #[⟨6, .guard⟩], some (6, true)⟩) (v := undef) rfl (by kernel_rfl) (by kernel_rfl) (by kernel_rfl) (fun _ _ _ h => h) (Or.inr ⟨by rfl, rfl⟩) (by assumption) ?_
            try simp only [Act.put, q3]
            refine wpAnyH_take (i := 8) (oi := ⟨some 18, .move (.tmp 3), 3, "ref.go:89", #[⟨6, .guard⟩], some (6, true)⟩) (v := undef) rfl (by kernel_rfl) (by kernel_rfl) (by kernel_rfl) (fun _ _ _ h => h) (Or.inr ⟨by rfl, rfl⟩) (by assumption) ?_
            try simp only [Act.put, q3]
            refine wpAnyH_take (i := 9) (oi := ⟨some 19, .indexAddr 30 (.tmp 17) (.tmp 18), 0, "ref.go:89", #[⟨7, .data⟩, ⟨8, .data⟩, ⟨6, .guard⟩], some (6, true)⟩) (v := undef) rfl (by kernel_rfl) (by kernel_rfl) (by kernel_rfl) (fun _ _ _ h => h) (Or.inr ⟨by rfl, rfl⟩) (by assumption) ?_
            try simp only [Act.put, q3]
            refine wpAnyH_take (i := 10) (oi := ⟨some 20, .fieldAddr 32 (.tmp 19) 0, 0, "ref.go:89", #[⟨9, .data⟩, ⟨6, .guard⟩], some (6, true)⟩) (v := undef) rfl (by kernel_rfl) (by kernel_rfl) (by kernel_rfl) (fun _ _ _ h => h) (Or.inr ⟨by rfl, rfl⟩) (by assumption) ?_
            try simp only [Act.put, q3]
            refine wpAnyH_take (i := 11) (oi := ⟨some 21, .load 3 (.tmp 20), 3, "ref.go:89", #[⟨10, .data⟩, ⟨6, .guard⟩], some (6, true)⟩) (v := undef) rfl (by kernel_rfl) (by kernel_rfl) (by kernel_rfl) (fun _ _ _ h => h) (Or.inr ⟨by rfl, rfl⟩) (by assumption) ?_
            try simp only [Act.put, q3]
            refine wpAnyH_take (i := 12) (oi := ⟨some 22, .move (.tmp 0), 30, "ref.go:89", #[⟨6, .guard⟩], some (6, true)⟩) (v := undef) rfl (by kernel_rfl) (by kernel_rfl) (by kernel_rfl) (fun _ _ _ h => h) (Or.inr ⟨by rfl, rfl⟩) (by assumption) ?_
            try simp only [Act.put, q3]
            refine wpAnyH_take (i := 13) (oi := ⟨some 23, .move (.tmp 3), 3, "ref.go:89", #[⟨6, .guard⟩], some (6, true)⟩) (v := undef) rfl (by kernel_rfl) (by kernel_rfl) (by kernel_rfl) (fun _ _ _ h => h) (Or.inr ⟨by rfl, rfl⟩) (by assumption) ?_
            try simp only [Act.put, q3]
            refine wpAnyH_take (i := 14) (oi := ⟨some 24, .indexAddr 30 (.tmp 22) (.tmp 23), 0, "ref.go:89", #[⟨12, .data⟩, ⟨13, .data⟩, ⟨6, .guard⟩], some (6, true)⟩) (v := undef) rfl (by kernel_rfl) (by kernel_rfl) (by kernel_rfl) (fun _ _ _ h => h) (Or.inr ⟨by rfl, rfl⟩) (by assumption) ?_
            try simp only [Act.put, q3]
            refine wpAnyH_take (i := 15) (oi := ⟨some 25, .fieldAddr 32 (.tmp 24) 1, 0, "ref.go:89", #[⟨14, .data⟩, ⟨6, .guard⟩], some (6, true)⟩) (v := undef) rfl (by kernel_rfl) (by kernel_rfl) (by kernel_rfl) (fun _ _ _ h => h) (Or.inr ⟨by rfl, rfl⟩) (by assumption) ?_
            try simp only [Act.put, q3]
            refine wpAnyH_take (i := 16) (oi := ⟨some 26, .load 9 (.tmp 25), 9, "ref.go:89", #[⟨15, .data⟩, ⟨6, .guard⟩], some (6, true)⟩) (v := undef) rfl (by kernel_rfl) (by kernel_rfl) (by kernel_rfl) (fun _ _ _ h => h) (Or.inr ⟨by rfl, rfl⟩) (by assumption) ?_
            try simp only [Act.put, q3]
            refine wpAnyH_take (i := 17) (oi := ⟨some 27, .move (.tmp 0), 30, "ref.go:89", #[⟨6, .guard⟩], some (6, true)⟩) (v := undef) rfl (by kernel_rfl) (by kernel_rfl) (by kernel_rfl) (fun _ _ _ h => h) (Or.inr ⟨by rfl, rfl⟩) (by assumption) ?_
            try simp only [Act.put, q3]
            refine wpAnyH_take (i := 18) (oi := ⟨some 28, .move (.tmp 3), 3, "ref.go:89", #[⟨6, .guard⟩], some (6, true)⟩) (v := undef) rfl (by kernel_rfl) (by kernel_rfl) (by kernel_rfl) (fun _ _ _ h => h) (Or.inr ⟨by rfl, rfl⟩) (by assumption) ?_
            try simp only [Act.put, q3]
            refine wpAnyH_take (i := 19) (oi := ⟨some 29, .indexAddr 30 (.tmp 27) (.tmp 28), 0, "ref.go:89", #[⟨17, .data⟩, ⟨18, .data⟩, ⟨6, .guard⟩], some (6, true)⟩) (v := undef) rfl (by kernel_rfl) (by kernel_rfl) (by kernel_rfl) (fun _ _ _ h => h) (Or.inr ⟨by rfl, rfl⟩) (by assumption) ?_
            try simp only [Act.put, q3]
            refine wpAnyH_take (i := 20) (oi := ⟨some 30, .fieldAddr 32 (.tmp 29) 2, 0, "ref.go:89", #[⟨19, .data⟩, ⟨6, .guard⟩], some (6, true)⟩) (v := undef) rfl (by kernel_rfl) (by kernel_rfl) (by kernel_rfl) (fun _ _ _ h => h) (Or.inr ⟨by rfl, rfl⟩) (by assumption) ?_
            try simp only [Act.put, q3]
            refine wpAnyH_take (i := 21) (oi := ⟨some 31, .load 29 (.tmp 30), 29, "ref.go:89", #[⟨20, .data⟩, ⟨6, .guard⟩], some (6, true)⟩) (v := undef) rfl (by kernel_rfl) (by kernel_rfl) (by kernel_rfl) (fun _ _ _ h => h) (Or.inr ⟨by rfl, rfl⟩) (by assumption) ?_
            try simp only [Act.put, q3]
            refine wpAnyH_take (i := 22) (oi := ⟨some 32, .call { callee := .value (.func 64), args := #[.tmp 31], argTypes := #[29] }, 9, "ref.go:89", #[⟨21, .data⟩, ⟨6, .chain⟩, ⟨6, .guard⟩], some (6, true)⟩) (v := undef) rfl (by kernel_rfl) (by kernel_rfl) (by kernel_rfl) (fun _ _ _ h => h) (Or.inr ⟨by rfl, rfl⟩) (by assumption) ?_
            try simp only [Act.put, q3]
            refine wpAnyH_take (i := 23) (oi := ⟨some 33, .call { callee := .value (.func 63), args := #[.tmp 21, .tmp 26, .tmp 32], argTypes := #[3, 9, 9] }, 4, "ref.go:89", #[⟨11, .data⟩, ⟨16, .data⟩, ⟨22, .data⟩, ⟨22, .chain⟩, ⟨6, .guard⟩], some (6, true)⟩) (v := undef) rfl (by kernel_rfl) (by kernel_rfl) (by kernel_rfl) (fun _ _ _ h => h) (Or.inr ⟨by rfl, rfl⟩) (by assumption) ?_
            try simp only [Act.put, q3]
            refine wpAnyH_take (i := 24) (oi := ⟨some 34, .unOp .not 4 (.tmp 33), 4, "ref.go:89", #[⟨23, .data⟩, ⟨6, .guard⟩], some (6, true)⟩) (v := undef) rfl (by kernel_rfl) (by kernel_rfl) (by kernel_rfl) (fun _ _ _ h => h) (Or.inr ⟨by rfl, rfl⟩) (by assumption) ?_
            try simp only [Act.put, q3]
            refine wpAnyH_take (i := 25) (oi := ⟨some 35, .pick (.tmp 16) (.tmp 34) (.const (.bool false)), 4, "ref.go:89", #[⟨6, .data⟩, ⟨24, .data⟩], none⟩) (v := ?_) rfl (by kernel_rfl) (by kernel_rfl) (by kernel_rfl) (fun _ _ _ h => h) (Or.inl ⟨by rfl, ?_⟩) (by assumption) ?_; rotate_left 1; · (intro w _; go_simp; all_goals with_reducible rfl)
            try simp only [Act.put, q3]
            refine wpAnyH_take (i := 26) (oi := ⟨some 36, .move (.tmp 35), 4, "ref.go:89", #[⟨25, .data⟩, ⟨23, .chain⟩], none⟩) (v := ?_) rfl (by kernel_rfl) (by kernel_rfl) (by kernel_rfl) (fun _ _ _ h => h) (Or.inl ⟨by rfl, ?_⟩) (by assumption) ?_; rotate_left 1; · (intro w _; go_simp; all_goals with_reducible rfl)
            try simp only [Act.put, q3]
            refine wpAnyH_take (i := 27) (oi := ⟨some 37, .move (.tmp 0), 30, "ref.go:89", #[⟨26, .guard⟩], some (26, false)⟩) (v := ?_) rfl (by kernel_rfl) (by kernel_rfl) (by kernel_rfl) (fun _ _ _ h => h) (Or.inl ⟨by rfl, ?_⟩) (by assumption) ?_; rotate_left 1; · (intro w _; go_simp; all_goals with_reducible rfl)
            try simp only [Act.put, q3]
            refine wpAnyH_take (i := 28) (oi := ⟨some 38, .move (.tmp 3), 3, "ref.go:89", #[⟨26, .guard⟩], some (26, false)⟩) (v := ?_) rfl (by kernel_rfl) (by kernel_rfl) (by kernel_rfl) (fun _ _ _ h => h) (Or.inl ⟨by rfl, ?_⟩) (by assumption) ?_; rotate_left 1; · (intro w _; go_simp; all_goals with_reducible rfl)
            try simp only [Act.put, q3]
            refine wpAnyH_take (i := 29) (oi := ⟨some 39, .indexAddr 30 (.tmp 37) (.tmp 38), 0, "ref.go:89", #[⟨27, .data⟩, ⟨28, .data⟩, ⟨26, .guard⟩], some (26, false)⟩) (v := ?_) rfl (by kernel_rfl) (by kernel_rfl) (by kernel_rfl) (fun _ _ _ h => h) (Or.inl ⟨by rfl, ?_⟩) (by assumption) ?_; rotate_left 1; · (intro w _; go_simp; all_goals with_reducible rfl)
            try simp only [Act.put, q3]
            refine wpAnyH_take (i := 30) (oi := ⟨some 40, .fieldAddr 32 (.tmp 39) 3, 0, "ref.go:89", #[⟨29, .data⟩, ⟨26, .guard⟩], some (26, false)⟩) (v := ?_) rfl (by kernel_rfl) (by kernel_rfl) (by kernel_rfl) (fun _ _ _ h => h) (Or.inl ⟨by rfl, ?_⟩) (by assumption) ?_; rotate_left 1; · (intro w _; go_simp; all_goals with_reducible rfl)
            try simp only [Act.put, q3]
            refine wpAnyH_take (i := 31) (oi := ⟨some 41, .load 30 (.tmp 40), 30, "ref.go:89", #[⟨30, .data⟩, ⟨26, .guard⟩], some (26, false)⟩) (v := ?_) rfl (by kernel_rfl) (by kernel_rfl) (by kernel_rfl) (fun _ _ _ h => h) (Or.inl ⟨by rfl, ?_⟩) (by assumption) ?_; rotate_left 1; · (intro w hSw; (try dsimp only at hSw); go_simp; all_goals with_reducible rfl)
            try simp only [Act.put, q3]
            refine wpAnyH_ready (rs := [32]) (by kernel_rfl) (by simp) ?_
            refine AllReadyH.cons (o := ⟨some 42, .call { callee := .value (.func 37), args := #[.tmp 41], argTypes := #[30] }, 4, "ref.go:89", #[⟨31, .data⟩, ⟨26, .chain⟩, ⟨26, .guard⟩], some (26, false)⟩) rfl (fun K hK => ?_) AllReadyH.nil
            go_simp
            go_at_call 37
            refine (H3.out.1 _ _ A3 c3 HS.out.drew HA.out.2.2.2.1 HA.out.2.2.2.2.1 H3.out.2.2.1).mono ?_
            rintro e w2 ⟨rfl, h2⟩
            rw [HF3.out]
            refine hK.out _ _ ?_ (fun hHeld => ?_)
            · exact HC5.out _ _ h2
            clear hK K
            try simp only [Act.put, q3]
            refine wpAnyH_take (i := 33) (oi := ⟨some 43, .unOp .not 4 (.tmp 42), 4, "ref.go:89", #[⟨32, .data⟩, ⟨26, .guard⟩], some (26, false)⟩) (v := ?_) rfl (by kernel_rfl) (by kernel_rfl) (by kernel_rfl) (fun _ _ _ h => h) (Or.inl ⟨by rfl, ?_⟩) (by assumption) ?_; rotate_left 1; · (intro w _; go_simp; all_goals with_reducible rfl)
            try simp only [Act.put, q3]
            refine wpAnyH_take (i := 34) (oi := ⟨some 44, .pick (.tmp 36) (.const (.bool true)) (.tmp 43), 4, "ref.go:89", #[⟨26, .data⟩, ⟨33, .data⟩], none⟩) (v := ?_) rfl (by kernel_rfl) (by kernel_rfl) (by kernel_rfl) (fun _ _ _ h => h) (Or.inl ⟨by rfl, ?_⟩) (by assumption) ?_; rotate_left 1; · (intro w _; go_simp; all_goals with_reducible rfl)
            try simp only [Act.put, q3]
            refine wpAnyH_take (i := 35) (oi := ⟨some 45, .move (.tmp 44), 4, "ref.go:89", #[⟨34, .data⟩, ⟨32, .chain⟩], none⟩) (v := ?_) rfl (by kernel_rfl) (by kernel_rfl) (by kernel_rfl) (fun _ _ _ h => h) (Or.inl ⟨by rfl, ?_⟩) (by assumption) ?_; rotate_left 1; · (intro w _; go_simp; all_goals with_reducible rfl)
            try simp only [Act.put, q3]
            refine wpAnyH_take (i := 36) (oi := ⟨some 46, .move (.tmp 0), 30, "ref.go:89", #[⟨35, .guard⟩], some (35, false)⟩) (v := ?_) rfl (by kernel_rfl) (by kernel_rfl) (by kernel_rfl) (fun _ _ _ h => h) (Or.inl ⟨by rfl, ?_⟩) (by assumption) ?_; rotate_left 1; · (intro w _; go_simp; all_goals with_reducible rfl)
            try simp only [Act.put, q3]
            refine wpAnyH_take (i := 37) (oi := ⟨some 47, .move (.tmp 3), 3, "ref.go:89", #[⟨35, .guard⟩], some (35, false)⟩) (v := ?_) rfl (by kernel_rfl) (by kernel_rfl) (by kernel_rfl) (fun _ _ _ h => h) (Or.inl ⟨by rfl, ?_⟩) (by assumption) ?_; rotate_left 1; · (intro w _; go_simp; all_goals with_reducible rfl)
            try simp only [Act.put, q3]
            refine wpAnyH_take (i := 38) (oi := ⟨some 48, .indexAddr 30 (.tmp 46) (.tmp 47), 0, "ref.go:89", #[⟨36, .data⟩, ⟨37, .data⟩, ⟨35, .guard⟩], some (35, false)⟩) (v := ?_) rfl (by kernel_rfl) (by kernel_rfl) (by kernel_rfl) (fun _ _ _ h => h) (Or.inl ⟨by rfl, ?_⟩) (by assumption) ?_; rotate_left 1; · (intro w _; go_simp; all_goals with_reducible rfl)
            try simp only [Act.put, q3]
            refine wpAnyH_take (i := 39) (oi := ⟨some 49, .fieldAddr 32 (.tmp 48) 4, 0, "ref.go:89", #[⟨38, .data⟩, ⟨35, .guard⟩], some (35, false)⟩) (v := ?_) rfl (by kernel_rfl) (by kernel_rfl) (by kernel_rfl) (fun _ _ _ h => h) (Or.inl ⟨by rfl, ?_⟩) (by assumption) ?_; rotate_left 1; · (intro w _; go_simp; all_goals with_reducible rfl)
            try simp only [Act.put, q3]
            refine wpAnyH_take (i := 40) (oi := ⟨some 50, .load 30 (.tmp 49), 30, "ref.go:89", #[⟨39, .data⟩, ⟨35, .guard⟩], some (35, false)⟩) (v := ?_) rfl (by kernel_rfl) (by kernel_rfl) (by kernel_rfl) (fun _ _ _ h => h) (Or.inl ⟨by rfl, ?_⟩) (by assumption) ?_; rotate_left 1; · (intro w hSw; (try dsimp only at hSw); go_simp; all_goals with_reducible rfl)
            try simp only [Act.put, q3]
            refine wpAnyH_ready (rs := [41]) (by kernel_rfl) (by simp) ?_
            refine AllReadyH.cons (o := ⟨some 51, .call { callee := .value (.func 37), args := #[.tmp 50], argTypes := #[30] }, 4, "ref.go:89", #[⟨40, .data⟩, ⟨35, .chain⟩, ⟨35, .guard⟩], some (35, false)⟩) rfl (fun K hK => ?_) AllReadyH.nil
            go_simp
            go_at_call 37
            refine (H3.out.2.1 _ _ A4 c4 h2 HA.out.2.2.2.2.2.1 HA.out.2.2.2.2.2.2 H3.out.2.2.2).mono ?_
            rintro e w3 ⟨rfl, h3⟩
            rw [HF4.out]
            refine hK.out _ _ ?_ (fun hHeld => ?_)
            · exact HC5.out _ _ h3
            clear hK K
            try simp only [Act.put, q3]
            refine wpAnyH_take (i := 42) (oi := ⟨some 52, .unOp .not 4 (.tmp 51), 4, "ref.go:89", #[⟨41, .data⟩, ⟨35, .guard⟩], some (35, false)⟩) (v := ?_) rfl (by kernel_rfl) (by kernel_rfl) (by kernel_rfl) (fun _ _ _ h => h) (Or.inl ⟨by rfl, ?_⟩) (by assumption) ?_; rotate_left 1; · (intro w _; go_simp; all_goals with_reducible rfl)
            try simp only [Act.put, q3]
            refine wpAnyH_take (i := 43) (oi := ⟨some 53, .pick (.tmp 45) (.const (.bool true)) (.tmp 52), 4, "ref.go:89", #[⟨35, .data⟩, ⟨42, .data⟩], none⟩) (v := ?_) rfl (by kernel_rfl) (by kernel_rfl) (by kernel_rfl) (fun _ _ _ h => h) (Or.inl ⟨by rfl, ?_⟩) (by assumption) ?_; rotate_left 1; · (intro w _; go_simp; all_goals with_reducible rfl)
            try simp only [Act.put, q3]
            refine wpAnyH_done (by kernel_rfl) ?_ _
            have HL := Lib.hid h3
            clear d0 d1 d2 d3 d4
            go_wp2
            go_ret
            exact ⟨by rw [HV.out]; rfl, HL.out⟩
          | true =>
            have HF4 := Lib.hid hf4
            have HV : Hid (allB typedB (l.drop (x + 1).toNat) = allB typedB l) := Lib.hid (by rw [← HN.out, HD.out, HT2.out, hf3, hf4]; rfl)
            clear hf3 hf4
            go_wp2_with fail
            refine wp_region_held_drew (S := (fun w' => w'.cell? (ad.add (x.toNat * 5)) = some (.int .i64 s.f0) ∧ w'.cell? ⟨(ad.add (x.toNat * 5)).block, (ad.add (x.toNat * 5)).off + 1, none⟩ = some (.string s.f1) ∧ w'.cell? ⟨(ad.add (x.toNat * 5)).block, (ad.add (x.toNat * 5)).off + 2, none⟩ = some (.slice A2 s.f2.length c2) ∧ w'.cell? ⟨(ad.add (x.toNat * 5)).block, (ad.add (x.toNat * 5)).off + 3, none⟩ = some (.slice A3 s.f3.length c3) ∧ w'.cell? ⟨(ad.add (x.toNat * 5)).block, (ad.add (x.toNat * 5)).off + 4, none⟩ = some (.slice A4 s.f4.length c4))) (by kernel_rfl) ?_ (fun hHeld => ?_)
            · exact ⟨d0, d1, d2, d3, d4⟩
            refine wpAnyH_take (i := 0) (oi := ⟨some 10, .move (.tmp 0), 30, "ref.go:89", #[], none⟩) (v := ?_) rfl (by kernel_rfl) (by kernel_rfl) (by kernel_rfl) (fun _ _ _ h => h) (Or.inl ⟨by rfl, ?_⟩) (by assumption) ?_; rotate_left 1; · (intro w _; go_simp; all_goals with_reducible rfl)
            try simp only [Act.put, q3]
            refine wpAnyH_take (i := 1) (oi := ⟨some 11, .move (.tmp 3), 3, "ref.go:89", #[], none⟩) (v := ?_) rfl (by kernel_rfl) (by kernel_rfl) (by kernel_rfl) (fun _ _ _ h => h) (Or.inl ⟨by rfl, ?_⟩) (by assumption) ?_; rotate_left 1; · (intro w _; go_simp; all_goals with_reducible rfl)
            try simp only [Act.put, q3]
            refine wpAnyH_take (i := 2) (oi := ⟨some 12, .indexAddr 30 (.tmp 10) (.tmp 11), 0, "ref.go:89", #[⟨0, .data⟩, ⟨1, .data⟩], none⟩) (v := ?_) rfl (by kernel_rfl) (by kernel_rfl) (by kernel_rfl) (fun _ _ _ h => h) (Or.inl ⟨by rfl, ?_⟩) (by assumption) ?_; rotate_left 1; · (intro w _; go_simp; all_goals with_reducible rfl)
            try simp only [Act.put, q3]
            refine wpAnyH_take (i := 3) (oi := ⟨some 13, .fieldAddr 32 (.tmp 12) 0, 0, "ref.go:89", #[⟨2, .data⟩], none⟩) (v := ?_) rfl (by kernel_rfl) (by kernel_rfl) (by kernel_rfl) (fun _ _ _ h => h) (Or.inl ⟨by rfl, ?_⟩) (by assumption) ?_; rotate_left 1; · (intro w _; go_simp; all_goals with_reducible rfl)
            try simp only [Act.put, q3]
            refine wpAnyH_take (i := 4) (oi := ⟨some 14, .load 3 (.tmp 13), 3, "ref.go:89", #[⟨3, .data⟩], none⟩) (v := ?_) rfl (by kernel_rfl) (by kernel_rfl) (by kernel_rfl) (fun _ _ _ h => h) (Or.inl ⟨by rfl, ?_⟩) (by assumption) ?_; rotate_left 1; · (intro w hSw; (try dsimp only at hSw); go_simp; all_goals with_reducible rfl)
            try simp only [Act.put, q3]
            refine wpAnyH_take (i := 5) (oi := ⟨some 15, .binOp .neq 3 (.tmp 14) (.const (.int .i64 2)) 3, 4, "ref.go:89", #[⟨4, .data⟩], none⟩) (v := ?_) rfl (by kernel_rfl) (by kernel_rfl) (by kernel_rfl) (fun _ _ _ h => h) (Or.inl ⟨by rfl, ?_⟩) (by assumption) ?_; rotate_left 1; · (intro w _; go_simp; all_goals with_reducible rfl)
            try simp only [Act.put, q3]
            refine wpAnyH_take (i := 6) (oi := ⟨some 16, .move (.tmp 15), 4, "ref.go:89", #[⟨5, .data⟩], none⟩) (v := ?_) rfl (by kernel_rfl) (by kernel_rfl) (by kernel_rfl) (fun _ _ _ h => h) (Or.inl ⟨by rfl, ?_⟩) (by assumption) ?_; rotate_left 1; · (intro w _; go_simp; all_goals with_reducible rfl)
            try simp only [Act.put, q3]
            refine wpAnyH_take (i := 7) (oi := ⟨some 17, .move (.tmp 0), 30, "ref.go:89", #[⟨6, .guard⟩], some (6, true)⟩) (v := undef) rfl (by kernel_rfl) (by kernel_rfl) (by kernel_rfl) (fun _ _ _ h => h) (Or.inr ⟨by rfl, rfl⟩) (by assumption) ?_
            try simp only [Act.put, q3]
            refine wpAnyH_take (i := 8) (oi := ⟨some 18, .move (.tmp 3), 3, "ref.go:89", #[⟨6, .guard⟩], some (6, true)⟩) (v := undef) rfl (by kernel_rfl) (by kernel_rfl) (by kernel_rfl) (fun _ _ _ h => h) (Or.inr ⟨by rfl, rfl⟩) (by assumption) ?_
            try simp only [Act.put, q3]
            refine wpAnyH_take (i := 9) (oi := ⟨some 19, .indexAddr 30 (.tmp 17) (.tmp 18), 0, "ref.go:89", #[⟨7, .data⟩, ⟨8, .data⟩, ⟨6, .guard⟩], some (6, true)⟩) (v := undef) rfl (by kernel_rfl) (by kernel_rfl) (by kernel_rfl) (fun _ _ _ h => h) (Or.inr ⟨by rfl, rfl⟩) (by assumption) ?_
            try simp only [Act.put, q3]
            refine wpAnyH_take (i := 10) (oi := ⟨some 20, .fieldAddr 32 (.tmp 19) 0, 0, "ref.go:89", #[⟨9, .data⟩, ⟨6, .guard⟩], some (6, true)⟩) (v := undef) rfl (by kernel_rfl) (by kernel_rfl) (by kernel_rfl) (fun _ _ _ h => h) (Or.inr ⟨by rfl, rfl⟩) (by assumption) ?_
            try simp only [Act.put, q3]
            refine wpAnyH_take (i := 11) (oi := ⟨some 21, .load 3 (.tmp 20), 3, "ref.go:89", #[⟨10, .data⟩, ⟨6, .guard⟩], some (6, true)⟩) (v := undef) rfl (by kernel_rfl) (by kernel_rfl) (by kernel_rfl) (fun _ _ _ h => h) (Or.inr ⟨by rfl, rfl⟩) (by assumption) ?_
            try simp only [Act.put, q3]
            refine wpAnyH_take (i := 12) (oi := ⟨some 22, .move (.tmp 0), 30, "ref.go:89", #[⟨6, .guard⟩], some (6, true)⟩) (v := undef) rfl (by kernel_rfl) (by kernel_rfl) (by kernel_rfl) (fun _ _ _ h => h) (Or.inr ⟨by rfl, rfl⟩) (by assumption) ?_
            try simp only [Act.put, q3]
            refine wpAnyH_take (i := 13) (oi := ⟨some 23, .move (.tmp 3), 3, "ref.go:89", #[⟨6, .guard⟩], some (6, true)⟩) (v := undef) rfl (by kernel_rfl) (by kernel_rfl) (by kernel_rfl) (fun _ _ _ h => h) (Or.inr ⟨by rfl, rfl⟩) (by assumption) ?_
            try simp only [Act.put, q3]
            refine wpAnyH_take (i := 14) (oi := ⟨some 24, .indexAddr 30 (.tmp 22) (.tmp 23), 0, "ref.go:89", #[⟨12, .data⟩, ⟨13, .data⟩, ⟨6, .guard⟩], some (6, true)⟩) (v := undef) rfl (by kernel_rfl) (by kernel_rfl) (by kernel_rfl) (fun _ _ _ h => h) (Or.inr ⟨by rfl, rfl⟩) (by assumption) ?_
            try simp only [Act.put, q3]
            refine wpAnyH_take (i := 15) (oi := ⟨some 25, .fieldAddr 32 (.tmp 24) 1, 0, "ref.go:89", #[⟨14, .data⟩, ⟨6, .guard⟩], some (6, true)⟩) (v := undef) rfl (by kernel_rfl) (by kernel_rfl) (by kernel_rfl) (fun _ _ _ h => h) (Or.inr ⟨by rfl, rfl⟩) (by assumption) ?_
            try simp only [Act.put, q3]
            refine wpAnyH_take (i := 16) (oi := ⟨some 26, .load 9 (.tmp 25), 9, "ref.go:89", #[⟨15, .data⟩, ⟨6, .guard⟩], some (6, true)⟩) (v := undef) rfl (by kernel_rfl) (by kernel_rfl) (by kernel_rfl) (fun _ _ _ h => h) (Or.inr ⟨by rfl, rfl⟩) (by assumption) ?_
            try simp only [Act.put, q3]
            refine wpAnyH_take (i := 17) (oi := ⟨some 27, .move (.tmp 0), 30, "ref.go:89", #[⟨6, .guard⟩], some (6, true)⟩) (v := undef) rfl (by kernel_rfl) (by kernel_rfl) (by kernel_rfl) (fun _ _ _ h => h) (Or.inr ⟨by rfl, rfl⟩) (by assumption) ?_
            try simp only [Act.put, q3]
            refine wpAnyH_take (i := 18) (oi := ⟨some 28, .move (.tmp 3), 3, "ref.go:89", #[⟨6, .guard⟩], some (6, true)⟩) (v := undef) rfl (by kernel_rfl) (by kernel_rfl) (by kernel_rfl) (fun _ _ _ h => h) (Or.inr ⟨by rfl, rfl⟩) (by assumption) ?_
            try simp only [Act.put, q3]
            refine wpAnyH_take (i := 19) (oi := ⟨some 29, .indexAddr 30 (.tmp 27) (.tmp 28), 0, "ref.go:89", #[⟨17, .data⟩, ⟨18, .data⟩, ⟨6, .guard⟩], some (6, true)⟩) (v := undef) rfl (by kernel_rfl) (by kernel_rfl) (by kernel_rfl) (fun _ _ _ h => h) (Or.inr ⟨by rfl, rfl⟩) (by assumption) ?_
            try simp only [Act.put, q3]
            refine wpAnyH_take (i := 20) (oi := ⟨some 30, .fieldAddr 32 (.tmp 29) 2, 0, "ref.go:89", #[⟨19, .data⟩, ⟨6, .guard⟩], some (6, true)⟩) (v := undef) rfl (by kernel_rfl) (by kernel_rfl) (by kernel_rfl) (fun _ _ _ h => h) (Or.inr ⟨by rfl, rfl⟩) (by assumption) ?_
            try simp only [Act.put, q3]
            refine wpAnyH_take (i := 21) (oi := ⟨some 31, .load 29 (.tmp 30), 29, "ref.go:89", #[⟨20, .data⟩, ⟨6, .guard⟩], some (6, true)⟩) (v := undef) rfl (by kernel_rfl) (by kernel_rfl) (by kernel_rfl) (fun _ _ _ h => h) (Or.inr ⟨by rfl, rfl⟩) (by assumption) ?_
            try simp only [Act.put, q3]
            refine wpAnyH_take (i := 22) (oi := ⟨some 32, .call { callee := .value (.func 64), args := #[.tmp 31], argTypes := #[29] }, 9, "ref.go:89", #[⟨21, .data⟩, ⟨6, .chain⟩, ⟨6, .guard⟩], some (6, true)⟩) (v := undef) rfl (by kernel_rfl) (by kernel_rfl) (by kernel_rfl) (fun _ _ _ h => h) (Or.inr ⟨by rfl, rfl⟩) (by assumption) ?_
            try simp only [Act.put, q3]
            refine wpAnyH_take (i := 23) (oi := ⟨some 33, .call { callee := .value (.func 63), args := #[.tmp 21, .tmp 26, .tmp 32], argTypes := #[3, 9, 9] }, 4, "ref.go:89", #[⟨11, .data⟩, ⟨16, .data⟩, ⟨22, .data⟩, ⟨22, .chain⟩, ⟨6, .guard⟩], some (6, true)⟩) (v := undef) rfl (by kernel_rfl) (by kernel_rfl) (by kernel_rfl) (fun _ _ _ h => h) (Or.inr ⟨by rfl, rfl⟩) (by assumption) ?_
            try simp only [Act.put, q3]
            refine wpAnyH_take (i := 24) (oi := ⟨some 34, .unOp .not 4 (.tmp 33), 4, "ref.go:89", #[⟨23, .data⟩, ⟨6, .guard⟩], some (6, true)⟩) (v := undef) rfl (by kernel_rfl) (by kernel_rfl) (by kernel_rfl) (fun _ _ _ h => h) (Or.inr ⟨by rfl, rfl⟩) (by assumption) ?_
            try simp only [Act.put, q3]
            refine wpAnyH_take (i := 25) (oi := ⟨some 35, .pick (.tmp 16) (.tmp 34) (.const (.bool false)), 4, "ref.go:89", #[⟨6, .data⟩, ⟨24, .data⟩], none⟩) (v := ?_) rfl (by kernel_rfl) (by kernel_rfl) (by kernel_rfl) (fun _ _ _ h => h) (Or.inl ⟨by rfl, ?_⟩) (by assumption) ?_; rotate_left 1; · (intro w _; go_simp; all_goals with_reducible rfl)
            try simp only [Act.put, q3]
            refine wpAnyH_take (i := 26) (oi := ⟨some 36, .move (.tmp 35), 4, "ref.go:89", #[⟨25, .data⟩, ⟨23, .chain⟩], none⟩) (v := ?_) rfl (by kernel_rfl) (by kernel_rfl) (by kernel_rfl) (fun _ _ _ h => h) (Or.inl ⟨by rfl, ?_⟩) (by assumption) ?_; rotate_left 1; · (intro w _; go_simp; all_goals with_reducible rfl)
            try simp only [Act.put, q3]
            refine wpAnyH_take (i := 27) (oi := ⟨some 37, .move (.tmp 0), 30, "ref.go:89", #[⟨26, .guard⟩], some (26, false)⟩) (v := ?_) rfl (by kernel_rfl) (by kernel_rfl) (by kernel_rfl) (fun _ _ _ h => h) (Or.inl ⟨by rfl, ?_⟩) (by assumption) ?_; rotate_left 1; · (intro w _; go_simp; all_goals with_reducible rfl)
            try simp only [Act.put, q3]
            refine wpAnyH_take (i := 28) (oi := ⟨some 38, .move (.tmp 3), 3, "ref.go:89", #[⟨26, .guard⟩], some (26, false)⟩) (v := ?_) rfl (by kernel_rfl) (by kernel_rfl) (by kernel_rfl) (fun _ _ _ h => h) (Or.inl ⟨by rfl, ?_⟩) (by assumption) ?_; rotate_left 1; · (intro w _; go_simp; all_goals with_reducible rfl)
            try simp only [Act.put, q3]
            refine wpAnyH_take (i := 29) (oi := ⟨some 39, .indexAddr 30 (.tmp 37) (.tmp 38), 0, "ref.go:89", #[⟨27, .data⟩, ⟨28, .data⟩, ⟨26, .guard⟩], some (26, false)⟩) (v := ?_) rfl (by kernel_rfl) (by kernel_rfl) (by kernel_rfl) (fun _ _ _ h => h) (Or.inl ⟨by rfl, ?_⟩) (by assumption) ?_; rotate_left 1; · (intro w _; go_simp; all_goals with_reducible rfl)
            try simp only [Act.put, q3]
            refine wpAnyH_take (i := 30) (oi := ⟨some 40, .fieldAddr 32 (.tmp 39) 3, 0, "ref.go:89", #[⟨29, .data⟩, ⟨26, .guard⟩], some (26, false)⟩) (v := ?_) rfl (by kernel_rfl) (by kernel_rfl) (by kernel_rfl) (fun _ _ _ h => h) (Or.inl ⟨by rfl, ?_⟩) (by assumption) ?_; rotate_left 1; · (intro w _; go_simp; all_goals with_reducible rfl)
            try simp only [Act.put, q3]
            refine wpAnyH_take (i := 31) (oi := ⟨some 41, .load 30 (.tmp 40), 30, "ref.go:89", #[⟨30, .data⟩, ⟨26, .guard⟩], some (26, false)⟩) (v := ?_) rfl (by kernel_rfl) (by kernel_rfl) (by kernel_rfl) (fun _ _ _ h => h) (Or.inl ⟨by rfl, ?_⟩) (by assumption) ?_; rotate_left 1; · (intro w hSw; (try dsimp only at hSw); go_simp; all_goals with_reducible rfl)
            try simp only [Act.put, q3]
            refine wpAnyH_ready (rs := [32]) (by kernel_rfl) (by simp) ?_
            refine AllReadyH.cons (o := ⟨some 42, .call { callee := .value (.func 37), args := #[.tmp 41], argTypes := #[30] }, 4, "ref.go:89", #[⟨31, .data⟩, ⟨26, .chain⟩, ⟨26, .guard⟩], some (26, false)⟩) rfl (fun K hK => ?_) AllReadyH.nil
            go_simp
            go_at_call 37
            refine (H3.out.1 _ _ A3 c3 HS.out.drew HA.out.2.2.2.1 HA.out.2.2.2.2.1 H3.out.2.2.1).mono ?_
            rintro e w2 ⟨rfl, h2⟩
            rw [HF3.out]
            refine hK.out _ _ ?_ (fun hHeld => ?_)
            · exact HC5.out _ _ h2
            clear hK K
            try simp only [Act.put, q3]
            refine wpAnyH_take (i := 33) (oi := ⟨some 43, .unOp .not 4 (.tmp 42), 4, "ref.go:89", #[⟨32, .data⟩, ⟨26, .guard⟩], some (26, false)⟩) (v := ?_) rfl (by kernel_rfl) (by kernel_rfl) (by kernel_rfl) (fun _ _ _ h => h) (Or.inl ⟨by rfl, ?_⟩) (by assumption) ?_; rotate_left 1; · (intro w _; go_simp; all_goals with_reducible rfl)
            try simp only [Act.put, q3]
            refine wpAnyH_take (i := 34) (oi := ⟨some 44, .pick (.tmp 36) (.const (.bool true)) (.tmp 43), 4, "ref.go:89", #[⟨26, .data⟩, ⟨33, .data⟩], none⟩) (v := ?_) rfl (by kernel_rfl) (by kernel_rfl) (by kernel_rfl) (fun _ _ _ h => h) (Or.inl ⟨by rfl, ?_⟩) (by assumption) ?_; rotate_left 1; · (intro w _; go_simp; all_goals with_reducible rfl)
            try simp only [Act.put, q3]
            refine wpAnyH_take (i := 35) (oi := ⟨some 45, .move (.tmp 44), 4, "ref.go:89", #[⟨34, .data⟩, ⟨32, .chain⟩], none⟩) (v := ?_) rfl (by kernel_rfl) (by kernel_rfl) (by kernel_rfl) (fun _ _ _ h => h) (Or.inl ⟨by rfl, ?_⟩) (by assumption) ?_; rotate_left 1; · (intro w _; go_simp; all_goals with_reducible rfl)
            try simp only [Act.put, q3]
            refine wpAnyH_take (i := 36) (oi := ⟨some 46, .move (.tmp 0), 30, "ref.go:89", #[⟨35, .guard⟩], some (35, false)⟩) (v := ?_) rfl (by kernel_rfl) (by kernel_rfl) (by kernel_rfl) (fun _ _ _ h => h) (Or.inl ⟨by rfl, ?_⟩) (by assumption) ?_; rotate_left 1; · (intro w _; go_simp; all_goals with_reducible rfl)
            try simp only [Act.put, q3]
            refine wpAnyH_take (i := 37) (oi := ⟨some 47, .move (.tmp 3), 3, "ref.go:89", #[⟨35, .guard⟩], some (35, false)⟩) (v := ?_) rfl (by kernel_rfl) (by kernel_rfl) (by kernel_rfl) (fun _ _ _ h => h) (Or.inl ⟨by rfl, ?_⟩) (by assumption) ?_; rotate_left 1; · (intro w _; go_simp; all_goals with_reducible rfl)
            try simp only [Act.put, q3]
            refine wpAnyH_take (i := 38) (oi := ⟨some 48, .indexAddr 30 (.tmp 46) (.tmp 47), 0, "ref.go:89", #[⟨36, .data⟩, ⟨37, .data⟩, ⟨35, .guard⟩], some (35, false)⟩) (v := ?_) rfl (by kernel_rfl) (by kernel_rfl) (by kernel_rfl) (fun _ _ _ h => h) (Or.inl ⟨by rfl, ?_⟩) (by assumption) ?_; rotate_left 1; · (intro w _; go_simp; all_goals with_reducible rfl)
            try simp only [Act.put, q3]
            refine wpAnyH_take (i := 39) (oi := ⟨some 49, .fieldAddr 32 (.tmp 48) 4, 0, "ref.go:89", #[⟨38, .data⟩, ⟨35, .guard⟩], some (35, false)⟩) (v := ?_) rfl (by kernel_rfl) (by kernel_rfl) (by kernel_rfl) (fun _ _ _ h => h) (Or.inl ⟨by rfl, ?_⟩) (by assumption) ?_; rotate_left 1; · (intro w _; go_simp; all_goals with_reducible rfl)
            try simp only [Act.put, q3]
            refine wpAnyH_take (i := 40) (oi := ⟨some 50, .load 30 (.tmp 49), 30, "ref.go:89", #[⟨39, .data⟩, ⟨35, .guard⟩], some (35, false)⟩) (v := ?_) rfl (by kernel_rfl) (by kernel_rfl) (by kernel_rfl) (fun _ _ _ h => h) (Or.inl ⟨by rfl, ?_⟩) (by assumption) ?_; rotate_left 1; · (intro w hSw; (try dsimp only at hSw); go_simp; all_goals with_reducible rfl)
            try simp only [Act.put, q3]
            refine wpAnyH_ready (rs := [41]) (by kernel_rfl) (by simp) ?_
            refine AllReadyH.cons (o := ⟨some 51, .call { callee := .value (.func 37), args := #[.tmp 50], argTypes := #[30] }, 4, "ref.go:89", #[⟨40, .data⟩, ⟨35, .chain⟩, ⟨35, .guard⟩], some (35, false)⟩) rfl (fun K hK => ?_) AllReadyH.nil
            go_simp
            go_at_call 37
            refine (H3.out.2.1 _ _ A4 c4 h2 HA.out.2.2.2.2.2.1 HA.out.2.2.2.2.2.2 H3.out.2.2.2).mono ?_
            rintro e w3 ⟨rfl, h3⟩
            rw [HF4.out]
            refine hK.out _ _ ?_ (fun hHeld => ?_)
            · exact HC5.out _ _ h3
            clear hK K
            try simp only [Act.put, q3]
            refine wpAnyH_take (i := 42) (oi := ⟨some 52, .unOp .not 4 (.tmp 51), 4, "ref.go:89", #[⟨41, .data⟩, ⟨35, .guard⟩], some (35, false)⟩) (v := ?_) rfl (by kernel_rfl) (by kernel_rfl) (by kernel_rfl) (fun _ _ _ h => h) (Or.inl ⟨by rfl, ?_⟩) (by assumption) ?_; rotate_left 1; · (intro w _; go_simp; all_goals with_reducible rfl)
            try simp only [Act.put, q3]
            refine wpAnyH_take (i := 43) (oi := ⟨some 53, .pick (.tmp 45) (.const (.bool true)) (.tmp 52), 4, "ref.go:89", #[⟨35, .data⟩, ⟨42, .data⟩], none⟩) (v := ?_) rfl (by kernel_rfl) (by kernel_rfl) (by kernel_rfl) (fun _ _ _ h => h) (Or.inl ⟨by rfl, ?_⟩) (by assumption) ?_; rotate_left 1; · (intro w _; go_simp; all_goals with_reducible rfl)
            try simp only [Act.put, q3]
            refine wpAnyH_done (by kernel_rfl) ?_ _
            have HL := Lib.hid h3
            clear d0 d1 d2 d3 d4
            go_wp2
            exact ⟨⟨x + 1, by omega, by omega, by go_num, HL, HV⟩, by simp only [intOf]; omega⟩
      · have q0b : (s.f0 != 2) = true := bne_iff_ne.mpr q0
        have HQ2 := Lib.hid q0
        clear q0
        cases ht : typedB s with
        | false =>
          have HT := Lib.hid ht
          have HV : Hid (allB typedB l = false) := Lib.hid (by rw [← HN.out, HD.out, ht]; rfl)
          clear ht
          go_wp2_with fail
          refine wp_region_held_drew (S := (fun w' => w'.cell? (ad.add (x.toNat * 5)) = some (.int .i64 s.f0) ∧ w'.cell? ⟨(ad.add (x.toNat * 5)).block, (ad.add (x.toNat * 5)).off + 1, none⟩ = some (.string s.f1) ∧ w'.cell? ⟨(ad.add (x.toNat * 5)).block, (ad.add (x.toNat * 5)).off + 2, none⟩ = some (.slice A2 s.f2.length c2) ∧ w'.cell? ⟨(ad.add (x.toNat * 5)).block, (ad.add (x.toNat * 5)).off + 3, none⟩ = some (.slice A3 s.f3.length c3) ∧ w'.cell? ⟨(ad.add (x.toNat * 5)).block, (ad.add (x.toNat * 5)).off + 4, none⟩ = some (.slice A4 s.f4.length c4))) (by kernel_rfl) ?_ (fun hHeld => ?_)
          · exact ⟨d0, d1, d2, d3, d4⟩
          refine wpAnyH_take (i := 0) (oi := ⟨some 10, .move (.tmp 0), 30, "ref.go:89", #[], none⟩) (v := ?_) rfl (by kernel_rfl) (by kernel_rfl) (by kernel_rfl) (fun _ _ _ h => h) (Or.inl ⟨by rfl, ?_⟩) (by assumption) ?_; rotate_left 1; · (intro w _; go_simp; all_goals with_reducible rfl)
          try simp only [Act.put, q3]
          refine wpAnyH_take (i := 1) (oi := ⟨some 11, .move (.tmp 3), 3, "ref.go:89", #[], none⟩) (v := ?_) rfl (by kernel_rfl) (by kernel_rfl) (by kernel_rfl) (fun _ _ _ h => h) (Or.inl ⟨by rfl, ?_⟩) (by assumption) ?_; rotate_left 1; · (intro w _; go_simp; all_goals with_reducible rfl)
          try simp only [Act.put, q3]
          refine wpAnyH_take (i := 2) (oi := ⟨some 12, .indexAddr 30 (.tmp 10) (.tmp 11), 0, "ref.go:89", #[⟨0, .data⟩, ⟨1, .data⟩], none⟩) (v := ?_) rfl (by kernel_rfl) (by kernel_rfl) (by kernel_rfl) (fun _ _ _ h => h) (Or.inl ⟨by rfl, ?_⟩) (by assumption) ?_; rotate_left 1; · (intro w _; go_simp; all_goals with_reducible rfl)
          try simp only [Act.put, q3]
          refine wpAnyH_take (i := 3) (oi := ⟨some 13, .fieldAddr 32 (.tmp 12) 0, 0, "ref.go:89", #[⟨2, .data⟩], none⟩) (v := ?_) rfl (by kernel_rfl) (by kernel_rfl) (by kernel_rfl) (fun _ _ _ h => h) (Or.inl ⟨by rfl, ?_⟩) (by assumption) ?_; rotate_left 1; · (intro w _; go_simp; all_goals with_reducible rfl)
          try simp only [Act.put, q3]
          refine wpAnyH_take (i := 4) (oi := ⟨some 14, .load 3 (.tmp 13), 3, "ref.go:89", #[⟨3, .data⟩], none⟩) (v := ?_) rfl (by kernel_rfl) (by kernel_rfl) (by kernel_rfl) (fun _ _ _ h => h) (Or.inl ⟨by rfl, ?_⟩) (by assumption) ?_; rotate_left 1; · (intro w hSw; (try dsimp only at hSw); go_simp; all_goals with_reducible rfl)
          try simp only [Act.put, q3]
          refine wpAnyH_take (i := 5) (oi := ⟨some 15, .binOp .neq 3 (.tmp 14) (.const (.int .i64 2)) 3, 4, "ref.go:89", #[⟨4, .data⟩], none⟩) (v := ?_) rfl (by kernel_rfl) (by kernel_rfl) (by kernel_rfl) (fun _ _ _ h => h) (Or.inl ⟨by rfl, ?_⟩) (by assumption) ?_; rotate_left 1; · (intro w _; go_simp; all_goals with_reducible rfl)
          try simp only [Act.put, q3]
          refine wpAnyH_take (i := 6) (oi := ⟨some 16, .move (.tmp 15), 4, "ref.go:89", #[⟨5, .data⟩], none⟩) (v := ?_) rfl (by kernel_rfl) (by kernel_rfl) (by kernel_rfl) (fun _ _ _ h => h) (Or.inl ⟨by rfl, ?_⟩) (by assumption) ?_; rotate_left 1; · (intro w _; go_simp; all_goals with_reducible rfl)
          try simp only [Act.put, q3]
          refine wpAnyH_take (i := 7) (oi := ⟨some 17, .move (.tmp 0), 30, "ref.go:89", #[⟨6, .guard⟩], some (6, true)⟩) (v := ?_) rfl (by kernel_rfl) (by kernel_rfl) (by kernel_rfl) (fun _ _ _ h => h) (Or.inl ⟨by rfl, ?_⟩) (by assumption) ?_; rotate_left 1; · (intro w _; go_simp; all_goals with_reducible rfl)
          try simp only [Act.put, q3]
          refine wpAnyH_take (i := 8) (oi := ⟨some 18, .move (.tmp 3), 3, "ref.go:89", #[⟨6, .guard⟩], some (6, true)⟩) (v := ?_) rfl (by kernel_rfl) (by kernel_rfl) (by kernel_rfl) (fun _ _ _ h => h) (Or.inl ⟨by rfl, ?_⟩) (by assumption) ?_; rotate_left 1; · (intro w _; go_simp; all_goals with_reducible rfl)
          try simp only [Act.put, q3]
          refine wpAnyH_take (i := 9) (oi := ⟨some 19, .indexAddr 30 (.tmp 17) (.tmp 18), 0, "ref.go:89", #[⟨7, .data⟩, ⟨8, .data⟩, ⟨6, .guard⟩], some (6, true)⟩) (v := ?_) rfl (by kernel_rfl) (by kernel_rfl) (by kernel_rfl) (fun _ _ _ h => h) (Or.inl ⟨by rfl, ?_⟩) (by assumption) ?_; rotate_left 1; · (intro w _; go_simp; all_goals with_reducible rfl)
          try simp only [Act.put, q3]
          refine wpAnyH_take (i := 10) (oi := ⟨some 20, .fieldAddr 32 (.tmp 19) 0, 0, "ref.go:89", #[⟨9, .data⟩, ⟨6, .guard⟩], some (6, true)⟩) (v := ?_) rfl (by kernel_rfl) (by kernel_rfl) (by kernel_rfl) (fun _ _ _ h => h) (Or.inl ⟨by rfl, ?_⟩) (by assumption) ?_; rotate_left 1; · (intro w _; go_simp; all_goals with_reducible rfl)
          try simp only [Act.put, q3]
          refine wpAnyH_take (i := 11) (oi := ⟨some 21, .load 3 (.tmp 20), 3, "ref.go:89", #[⟨10, .data⟩, ⟨6, .guard⟩], some (6, true)⟩) (v := ?_) rfl (by kernel_rfl) (by kernel_rfl) (by kernel_rfl) (fun _ _ _ h => h) (Or.inl ⟨by rfl, ?_⟩) (by assumption) ?_; rotate_left 1; · (intro w hSw; (try dsimp only at hSw); go_simp; all_goals with_reducible rfl)
          try simp only [Act.put, q3]
          refine wpAnyH_take (i := 12) (oi := ⟨some 22, .move (.tmp 0), 30, "ref.go:89", #[⟨6, .guard⟩], some (6, true)⟩) (v := ?_) rfl (by kernel_rfl) (by kernel_rfl) (by kernel_rfl) (fun _ _ _ h => h) (Or.inl ⟨by rfl, ?_⟩) (by assumption) ?_; rotate_left 1; · (intro w _; go_simp; all_goals with_reducible rfl)
          try simp only [Act.put, q3]
          refine wpAnyH_take (i := 13) (oi := ⟨some 23, .move (.tmp 3), 3, "ref.go:89", #[⟨6, .guard⟩], some (6, true)⟩) (v := ?_) rfl (by kernel_rfl) (by kernel_rfl) (by kernel_rfl) (fun _ _ _ h => h) (Or.inl ⟨by rfl, ?_⟩) (by assumption) ?_; rotate_left 1; · (intro w _; go_simp; all_goals with_reducible rfl)
          try simp only [Act.put, q3]
          refine wpAnyH_take (i := 14) (oi := ⟨some 24, .indexAddr 30 (.tmp 22) (.tmp 23), 0, "ref.go:89", #[⟨12, .data⟩, ⟨13, .data⟩, ⟨6, .guard⟩], some (6, true)⟩) (v := ?_) rfl (by kernel_rfl) (by kernel_rfl) (by kernel_rfl) (fun _ _ _ h => h) (Or.inl ⟨by rfl, ?_⟩) (by assumption) ?_; rotate_left 1; · (intro w _; go_simp; all_goals with_reducible rfl)
          try simp only [Act.put, q3]
          refine wpAnyH_take (i := 15) (oi := ⟨some 25, .fieldAddr 32 (.tmp 24) 1, 0, "ref.go:89", #[⟨14, .data⟩, ⟨6, .guard⟩], some (6, true)⟩) (v := ?_) rfl (by kernel_rfl) (by kernel_rfl) (by kernel_rfl) (fun _ _ _ h => h) (Or.inl ⟨by rfl, ?_⟩) (by assumption) ?_; rotate_left 1; · (intro w _; go_simp; all_goals with_reducible rfl)
          try simp only [Act.put, q3]
          refine wpAnyH_take (i := 16) (oi := ⟨some 26, .load 9 (.tmp 25), 9, "ref.go:89", #[⟨15, .data⟩, ⟨6, .guard⟩], some (6, true)⟩) (v := ?_) rfl (by kernel_rfl) (by kernel_rfl) (by kernel_rfl) (fun _ _ _ h => h) (Or.inl ⟨by rfl, ?_⟩) (by assumption) ?_; rotate_left 1; · (intro w hSw; (try dsimp only at hSw); go_simp; all_goals with_reducible rfl)
          try simp only [Act.put, q3]
          refine wpAnyH_take (i := 17) (oi := ⟨some 27, .move (.tmp 0), 30, "ref.go:89", #[⟨6, .guard⟩], some (6, true)⟩) (v := ?_) rfl (by kernel_rfl) (by kernel_rfl) (by kernel_rfl) (fun _ _ _ h => h) (Or.inl ⟨by rfl, ?_⟩) (by assumption) ?_; rotate_left 1; · (intro w _; go_simp; all_goals with_reducible rfl)
          try simp only [Act.put, q3]
          refine wpAnyH_take (i := 18) (oi := ⟨some 28, .move (.tmp 3), 3, "ref.go:89", #[⟨6, .guard⟩], some (6, true)⟩) (v := ?_) rfl (by kernel_rfl) (by kernel_rfl) (by kernel_rfl) (fun _ _ _ h => h) (Or.inl ⟨by rfl, ?_⟩) (by assumption) ?_; rotate_left 1; · (intro w _; go_simp; all_goals with_reducible rfl)
          try simp only [Act.put, q3]
          refine wpAnyH_take (i := 19) (oi := ⟨some 29, .indexAddr 30 (.tmp 27) (.tmp 28), 0, "ref.go:89", #[⟨17, .data⟩, ⟨18, .data⟩, ⟨6, .guard⟩], some (6, true)⟩) (v := ?_) rfl (by kernel_rfl) (by kernel_rfl) (by kernel_rfl) (fun _ _ _ h => h) (Or.inl ⟨by rfl, ?_⟩) (by assumption) ?_; rotate_left 1; · (intro w _; go_simp; all_goals with_reducible rfl)
          try simp only [Act.put, q3]
          refine wpAnyH_take (i := 20) (oi := ⟨some 30, .fieldAddr 32 (.tmp 29) 2, 0, "ref.go:89", #[⟨19, .data⟩, ⟨6, .guard⟩], some (6, true)⟩) (v := ?_) rfl (by kernel_rfl) (by kernel_rfl) (by kernel_rfl) (fun _ _ _ h => h) (Or.inl ⟨by rfl, ?_⟩) (by assumption) ?_; rotate_left 1; · (intro w _; go_simp; all_goals with_reducible rfl)
          try simp only [Act.put, q3]
          refine wpAnyH_take (i := 21) (oi := ⟨some 31, .load 29 (.tmp 30), 29, "ref.go:89", #[⟨20, .data⟩, ⟨6, .guard⟩], some (6, true)⟩) (v := ?_) rfl (by kernel_rfl) (by kernel_rfl) (by kernel_rfl) (fun _ _ _ h => h) (Or.inl ⟨by rfl, ?_⟩) (by assumption) ?_; rotate_left 1; · (intro w hSw; (try dsimp only at hSw); go_simp; all_goals with_reducible rfl)
          try simp only [Act.put, q3]
          refine wpAnyH_ready (rs := [22]) (by kernel_rfl) (by simp) ?_
          refine AllReadyH.cons (o := ⟨some 32, .call { callee := .value (.func 64), args := #[.tmp 31], argTypes := #[29] }, 9, "ref.go:89", #[⟨21, .data⟩, ⟨6, .chain⟩, ⟨6, .guard⟩], some (6, true)⟩) rfl (fun K hK => ?_) AllReadyH.nil
          go_simp
          go_at_call 64
          refine (sorts_calls A2 c2 s.f2 HS.out.drew HA.out.1 HA.out.2.1 HA.out.2.2.1).mono ?_
          rintro e w2 ⟨rfl, h2⟩
          refine hK.out _ _ ?_ (fun hHeld => ?_)
          · exact HC5.out _ _ h2
          clear hK K
          try simp only [Act.put, q3]
          refine wpAnyH_ready (rs := [23]) (by kernel_rfl) (by simp) ?_
          refine AllReadyH.cons (o := ⟨some 33, .call { callee := .value (.func 63), args := #[.tmp 21, .tmp 26, .tmp 32], argTypes := #[3, 9, 9] }, 4, "ref.go:89", #[⟨11, .data⟩, ⟨16, .data⟩, ⟨22, .data⟩, ⟨22, .chain⟩, ⟨6, .guard⟩], some (6, true)⟩) rfl (fun K hK => ?_) AllReadyH.nil
          go_simp
          go_at_call 63
          refine (right_calls s h2 HA.out.2.2.1 HQ2.out).mono ?_
          rintro e w3 ⟨rfl, h3⟩
          rw [HT.out]
          refine hK.out _ _ ?_ (fun hHeld => ?_)
          · exact HC5.out _ _ h3
          clear hK K
          try simp only [Act.put, q3]
          refine wpAnyH_take (i := 24) (oi := ⟨some 34, .unOp .not 4 (.tmp 33), 4, "ref.go:89", #[⟨23, .data⟩, ⟨6, .guard⟩], some (6, true)⟩) (v := ?_) rfl (by kernel_rfl) (by kernel_rfl) (by kernel_rfl) (fun _ _ _ h => h) (Or.inl ⟨by rfl, ?_⟩) (by assumption) ?_; rotate_left 1; · (intro w _; go_simp; all_goals with_reducible rfl)
          try simp only [Act.put, q3]
          refine wpAnyH_take (i := 25) (oi := ⟨some 35, .pick (.tmp 16) (.tmp 34) (.const (.bool false)), 4, "ref.go:89", #[⟨6, .data⟩, ⟨24, .data⟩], none⟩) (v := ?_) rfl (by kernel_rfl) (by kernel_rfl) (by kernel_rfl) (fun _ _ _ h => h) (Or.inl ⟨by rfl, ?_⟩) (by assumption) ?_; rotate_left 1; · (intro w _; go_simp; all_goals with_reducible rfl)
          try simp only [Act.put, q3]
          refine wpAnyH_take (i := 26) (oi := ⟨some 36, .move (.tmp 35), 4, "ref.go:89", #[⟨25, .data⟩, ⟨23, .chain⟩], none⟩) (v := ?_) rfl (by kernel_rfl) (by kernel_rfl) (by kernel_rfl) (fun _ _ _ h => h) (Or.inl ⟨by rfl, ?_⟩) (by assumption) ?_; rotate_left 1; · (intro w _; go_simp; all_goals with_reducible rfl)
          try simp only [Act.put, q3]
          refine wpAnyH_take (i := 27) (oi := ⟨some 37, .move (.tmp 0), 30, "ref.go:89", #[⟨26, .guard⟩], some (26, false)⟩) (v := undef) rfl (by kernel_rfl) (by kernel_rfl) (by kernel_rfl) (fun _ _ _ h => h) (Or.inr ⟨by rfl, rfl⟩) (by assumption) ?_
          try simp only [Act.put, q3]
          refine wpAnyH_take (i := 28) (oi := ⟨some 38, .move (.tmp 3), 3, "ref.go:89", #[⟨26, .guard⟩], some (26, false)⟩) (v := undef) rfl (by kernel_rfl) (by kernel_rfl) (by kernel_rfl) (fun _ _ _ h => h) (Or.inr ⟨by rfl, rfl⟩) (by assumption) ?_
          try simp only [Act.put, q3]
          refine wpAnyH_take (i := 29) (oi := ⟨some 39, .indexAddr 30 (.tmp 37) (.tmp 38), 0, "ref.go:89", #[⟨27, .data⟩, ⟨28, .data⟩, ⟨26, .guard⟩], some (26, false)⟩) (v := undef) rfl (by kernel_rfl) (by kernel_rfl) (by kernel_rfl) (fun _ _ _ h => h) (Or.inr ⟨by rfl, rfl⟩) (by assumption) ?_
          try simp only [Act.put, q3]
          refine wpAnyH_take (i := 30) (oi := ⟨some 40, .fieldAddr 32 (.tmp 39) 3, 0, "ref.go:89", #[⟨29, .data⟩, ⟨26, .guard⟩], some (26, false)⟩) (v := undef) rfl (by kernel_rfl) (by kernel_rfl) (by kernel_rfl) (fun _ _ _ h => h) (Or.inr ⟨by rfl, rfl⟩) (by assumption) ?_
          try simp only [Act.put, q3]
          refine wpAnyH_take (i := 31) (oi := ⟨some 41, .load 30 (.tmp 40), 30, "ref.go:89", #[⟨30, .data⟩, ⟨26, .guard⟩], some (26, false)⟩) (v := undef) rfl (by kernel_rfl) (by kernel_rfl) (by kernel_rfl) (fun _ _ _ h => h) (Or.inr ⟨by rfl, rfl⟩) (by assumption) ?_
          try simp only [Act.put, q3]
          refine wpAnyH_take (i := 32) (oi := ⟨some 42, .call { callee := .value (.func 37), args := #[.tmp 41], argTypes := #[30] }, 4, "ref.go:89", #[⟨31, .data⟩, ⟨26, .chain⟩, ⟨26, .guard⟩], some (26, false)⟩) (v := undef) rfl (by kernel_rfl) (by kernel_rfl) (by kernel_rfl) (fun _ _ _ h => h) (Or.inr ⟨by rfl, rfl⟩) (by assumption) ?_
          try simp only [Act.put, q3]
          refine wpAnyH_take (i := 33) (oi := ⟨some 43, .unOp .not 4 (.tmp 42), 4, "ref.go:89", #[⟨32, .data⟩, ⟨26, .guard⟩], some (26, false)⟩) (v := undef) rfl (by kernel_rfl) (by kernel_rfl) (by kernel_rfl) (fun _ _ _ h => h) (Or.inr ⟨by rfl, rfl⟩) (by assumption) ?_
          try simp only [Act.put, q3]
          refine wpAnyH_take (i := 34) (oi := ⟨some 44, .pick (.tmp 36) (.const (.bool true)) (.tmp 43), 4, "ref.go:89", #[⟨26, .data⟩, ⟨33, .data⟩], none⟩) (v := ?_) rfl (by kernel_rfl) (by kernel_rfl) (by kernel_rfl) (fun _ _ _ h => h) (Or.inl ⟨by rfl, ?_⟩) (by assumption) ?_; rotate_left 1; · (intro w _; go_simp; all_goals with_reducible rfl)
          try simp only [Act.put, q3]
          refine wpAnyH_take (i := 35) (oi := ⟨some 45, .move (.tmp 44), 4, "ref.go:89", #[⟨34, .data⟩, ⟨32, .chain⟩], none⟩) (v := ?_) rfl (by kernel_rfl) (by kernel_rfl) (by kernel_rfl) (fun _ _ _ h => h) (Or.inl ⟨by rfl, ?_⟩) (by assumption) ?_; rotate_left 1; · (intro w _; go_simp; all_goals with_reducible rfl)
          try simp only [Act.put, q3]
          refine wpAnyH_take (i := 36) (oi := ⟨some 46, .move (.tmp 0), 30, "ref.go:89", #[⟨35, .guard⟩], some (35, false)⟩) (v := undef) rfl (by kernel_rfl) (by kernel_rfl) (by kernel_rfl) (fun _ _ _ h => h) (Or.inr ⟨by rfl, rfl⟩) (by assumption) ?_
          try simp only [Act.put, q3]
          refine wpAnyH_take (i := 37) (oi := ⟨some 47, .move (.tmp 3), 3, "ref.go:89", #[⟨35, .guard⟩], some (35, false)⟩) (v := undef) rfl (by kernel_rfl) (by kernel_rfl) (by kernel_rfl) (fun _ _ _ h => h) (Or.inr ⟨by rfl, rfl⟩) (by assumption) ?_
          try simp only [Act.put, q3]
          refine wpAnyH_take (i := 38) (oi := ⟨some 48, .indexAddr 30 (.tmp 46) (.tmp 47), 0, "ref.go:89", #[⟨36, .data⟩, ⟨37, .data⟩, ⟨35, .guard⟩], some (35, false)⟩) (v := undef) rfl (by kernel_rfl) (by kernel_rfl) (by kernel_rfl) (fun _ _ _ h => h) (Or.inr ⟨by rfl, rfl⟩) (by assumption) ?_
          try simp only [Act.put, q3]
          refine wpAnyH_take (i := 39) (oi := ⟨some 49, .fieldAddr 32 (.tmp 48) 4, 0, "ref.go:89", #[⟨38, .data⟩, ⟨35, .guard⟩], some (35, false)⟩) (v := undef) rfl (by kernel_rfl) (by kernel_rfl) (by kernel_rfl) (fun _ _ _ h => h) (Or.inr ⟨by rfl, rfl⟩) (by assumption) ?_
          try simp only [Act.put, q3]
          refine wpAnyH_take (i := 40) (oi := ⟨some 50, .load 30 (.tmp 49), 30, "ref.go:89", #[⟨39, .data⟩, ⟨35, .guard⟩], some (35, false)⟩) (v := undef) rfl (by kernel_rfl) (by kernel_rfl) (by kernel_rfl) (fun _ _ _ h => h) (Or.inr ⟨by rfl, rfl⟩) (by assumption) ?_
          try simp only [Act.put, q3]
          refine wpAnyH_take (i := 41) (oi := ⟨some 51, .call { callee := .value (.func 37), args := #[.tmp 50], argTypes := #[30] }, 4, "ref.go:89", #[⟨40, .data⟩, ⟨35, .chain⟩, ⟨35, .guard⟩], some (35, false)⟩) (v := undef) rfl (by kernel_rfl) (by kernel_rfl) (by kernel_rfl) (fun _ _ _ h => h) (Or.inr ⟨by rfl, rfl⟩) (by assumption) ?_
          try simp only [Act.put, q3]
          refine wpAnyH_take (i := 42) (oi := ⟨some 52, .unOp .not 4 (.tmp 51), 4, "ref.go:89", #[⟨41, .data⟩, ⟨35, .guard⟩], some (35, false)⟩) (v := undef) rfl (by kernel_rfl) (by kernel_rfl) (by kernel_rfl) (fun _ _ _ h => h) (Or.inr ⟨by rfl, rfl⟩) (by assumption) ?_
          try simp only [Act.put, q3]
          refine wpAnyH_take (i := 43) (oi := ⟨some 53, .pick (.tmp 45) (.const (.bool true)) (.tmp 52), 4, "ref.go:89", #[⟨35, .data⟩, ⟨42, .data⟩], none⟩) (v := ?_) rfl (by kernel_rfl) (by kernel_rfl) (by kernel_rfl) (fun _ _ _ h => h) (Or.inl ⟨by rfl, ?_⟩) (by assumption) ?_; rotate_left 1; · (intro w _; go_simp; all_goals with_reducible rfl)
          try simp only [Act.put, q3]
          refine wpAnyH_done (by kernel_rfl) ?_ _
          have HL := Lib.hid h3
          clear d0 d1 d2 d3 d4
          go_wp2
          go_ret
          exact ⟨by rw [HV.out]; rfl, HL.out⟩
        | true =>
          have HT := Lib.hid ht
          clear ht
          cases hf3 : allB typedB s.f3 with
          | false =>
            have HF3 := Lib.hid hf3
            have HV : Hid (allB typedB l = false) := Lib.hid (by rw [← HN.out, HD.out, HT.out, hf3]; rfl)
            clear hf3
            go_wp2_with fail
            refine wp_region_held_drew (S := (fun w' => w'.cell? (ad.add (x.toNat * 5)) = some (.int .i64 s.f0) ∧ w'.cell? ⟨(ad.add (x.toNat * 5)).block, (ad.add (x.toNat * 5)).off + 1, none⟩ = some (.string s.f1) ∧ w'.cell? ⟨(ad.add (x.toNat * 5)).block, (ad.add (x.toNat * 5)).off + 2, none⟩ = some (.slice A2 s.f2.length c2) ∧ w'.cell? ⟨(ad.add (x.toNat * 5)).block, (ad.add (x.toNat * 5)).off + 3, none⟩ = some (.slice A3 s.f3.length c3) ∧ w'.cell? ⟨(ad.add (x.toNat * 5)).block, (ad.add (x.toNat * 5)).off + 4, none⟩ = some (.slice A4 s.f4.length c4))) (by kernel_rfl) ?_ (fun hHeld => ?_)
            · exact ⟨d0, d1, d2, d3, d4⟩
            refine wpAnyH_take (i := 0) (oi := ⟨some 10, .move (.tmp 0), 30, "ref.go:89", #[], none⟩) (v := ?_) rfl (by kernel_rfl) (by kernel_rfl) (by kernel_rfl) (fun _ _ _ h => h) (Or.inl ⟨by rfl, ?_⟩) (by assumption) ?_; rotate_left 1; · (intro w _; go_simp; all_goals with_reducible rfl)
            try simp only [Act.put, q3]
            refine wpAnyH_take (i := 1) (oi := ⟨some 11, .move (.tmp 3), 3, "ref.go:89", #[], none⟩) (v := ?_) rfl (by kernel_rfl) (by kernel_rfl) (by kernel_rfl) (fun _ _ _ h => h) (Or.inl ⟨by rfl, ?_⟩) (by assumption) ?_; rotate_left 1; · (intro w _; go_simp; all_goals with_reducible rfl)
            try simp only [Act.put, q3]
            refine wpAnyH_take (i := 2) (oi := ⟨some 12, .indexAddr 30 (.tmp 10) (.tmp 11), 0, "ref.go:89", #[⟨0, .data⟩, ⟨1, .data⟩], none⟩) (v := ?_) rfl (by kernel_rfl) (by kernel_rfl) (by kernel_rfl) (fun _ _ _ h => h) (Or.inl ⟨by rfl, ?_⟩) (by assumption) ?_; rotate_left 1; · (intro w _; go_simp; all_goals with_reducible rfl)
            try simp only [Act.put, q3]
            refine wpAnyH_take (i := 3) (oi := ⟨some 13, .fieldAddr 32 (.tmp 12) 0, 0, "ref.go:89", #[⟨2, .data⟩], none⟩) (v := ?_) rfl (by kernel_rfl) (by kernel_rfl) (by kernel_rfl) (fun _ _ _ h => h) (Or.inl ⟨by rfl, ?_⟩) (by assumption) ?_; rotate_left 1; · (intro w _; go_simp; all_goals with_reducible rfl)
            try simp only [Act.put, q3]
            refine wpAnyH_take (i := 4) (oi := ⟨some 14, .load 3 (.tmp 13), 3, "ref.go:89", #[⟨3, .data⟩], none⟩) (v := ?_) rfl (by kernel_rfl) (by kernel_rfl) (by kernel_rfl) (fun _ _ _ h => h) (Or.inl ⟨by rfl, ?_⟩) (by assumption) ?_; rotate_left 1; · (intro w hSw; (try dsimp only at hSw); go_simp; all_goals with_reducible rfl)
            try simp only [Act.put, q3]
            refine wpAnyH_take (i := 5) (oi := ⟨some 15, .binOp .neq 3 (.tmp 14) (.const (.int .i64 2)) 3, 4, "ref.go:89", #[⟨4, .data⟩], none⟩) (v := ?_) rfl (by kernel_rfl) (by kernel_rfl) (by kernel_rfl) (fun _ _ _ h => h) (Or.inl ⟨by rfl, ?_⟩) (by assumption) ?_; rotate_left 1; · (intro w _; go_simp; all_goals with_reducible rfl)
            try simp only [Act.put, q3]
            refine wpAnyH_take (i := 6) (oi := ⟨some 16, .move (.tmp 15), 4, "ref.go:89", #[⟨5, .data⟩], none⟩) (v := ?_) rfl (by kernel_rfl) (by kernel_rfl) (by kernel_rfl) (fun _ _ _ h => h) (Or.inl ⟨by rfl, ?_⟩) (by assumption) ?_; rotate_left 1; · (intro w _; go_simp; all_goals with_reducible rfl)
            try simp only [Act.put, q3]
            refine wpAnyH_take (i := 7) (oi := ⟨some 17, .move (.tmp 0), 30, "ref.go:89", #[⟨6, .guard⟩], some (6, true)⟩) (v := ?_) rfl (by kernel_rfl) (by kernel_rfl) (by kernel_rfl) (fun _ _ _ h => h) (Or.inl ⟨by rfl, ?_⟩) (by assumption) ?_; rotate_left 1; · (intro w _; go_simp; all_goals with_reducible rfl)
            try simp only [Act.put, q3]
            refine wpAnyH_take (i := 8) (oi := ⟨some 18, .move (.tmp 3), 3, "ref.go:89", #[⟨6, .guard⟩], some (6, true)⟩) (v := ?_) rfl (by kernel_rfl) (by kernel_rfl) (by kernel_rfl) (fun _ _ _ h => h) (Or.inl ⟨by rfl, ?_⟩) (by assumption) ?_; rotate_left 1; · (intro w _; go_simp; all_goals with_reducible rfl)
            try simp only [Act.put, q3]
            refine wpAnyH_take (i := 9) (oi := ⟨some 19, .indexAddr 30 (.tmp 17) (.tmp 18), 0, "ref.go:89", #[⟨7, .data⟩, ⟨8, .data⟩, ⟨6, .guard⟩], some (6, true)⟩) (v := ?_) rfl (by kernel_rfl) (by kernel_rfl) (by kernel_rfl) (fun _ _ _ h => h) (Or.inl ⟨by rfl, ?_⟩) (by assumption) ?_; rotate_left 1; · (intro w _; go_simp; all_goals with_reducible rfl)
            try simp only [Act.put, q3]
            refine wpAnyH_take (i := 10) (oi := ⟨some 20, .fieldAddr 32 (.tmp 19) 0, 0, "ref.go:89", #[⟨9, .data⟩, ⟨6, .guard⟩], some (6, true)⟩) (v := ?_) rfl (by kernel_rfl) (by kernel_rfl) (by kernel_rfl) (fun _ _ _ h => h) (Or.inl ⟨by rfl, ?_⟩) (by assumption) ?_; rotate_left 1; · (intro w _; go_simp; all_goals with_reducible rfl)
            try simp only [Act.put, q3]
            refine wpAnyH_take (i := 11) (oi := ⟨some 21, .load 3 (.tmp 20), 3, "ref.go:89", #[⟨10, .data⟩, ⟨6, .guard⟩], some (6, true)⟩) (v := ?_) rfl (by kernel_rfl) (by kernel_rfl) (by kernel_rfl) (fun _ _ _ h => h) (Or.inl ⟨by rfl, ?_⟩) (by assumption) ?_; rotate_left 1; · (intro w hSw; (try dsimp only at hSw); go_simp; all_goals with_reducible rfl)
            try simp only [Act.put, q3]
            refine wpAnyH_take (i := 12) (oi := ⟨some 22, .move (.tmp 0), 30, "ref.go:89", #[⟨6, .guard⟩], some (6, true)⟩) (v := ?_) rfl (by kernel_rfl) (by kernel_rfl) (by kernel_rfl) (fun _ _ _ h => h) (Or.inl ⟨by rfl, ?_⟩) (by assumption) ?_; rotate_left 1; · (intro w _; go_simp; all_goals with_reducible rfl)
            try simp only [Act.put, q3]
            refine wpAnyH_take (i := 13) (oi := ⟨some 23, .move (.tmp 3), 3, "ref.go:89", #[⟨6, .guard⟩], some (6, true)⟩) (v := ?_) rfl (by kernel_rfl) (by kernel_rfl) (by kernel_rfl) (fun _ _ _ h => h) (Or.inl ⟨by rfl, ?_⟩) (by assumption) ?_; rotate_left 1; · (intro w _; go_simp; all_goals with_reducible rfl)
            try simp only [Act.put, q3]
            refine wpAnyH_take (i := 14) (oi := ⟨some 24, .indexAddr 30 (.tmp 22) (.tmp 23), 0, "ref.go:89", #[⟨12, .data⟩, ⟨13, .data⟩, ⟨6, .guard⟩], some (6, true)⟩) (v := ?_) rfl (by kernel_rfl) (by kernel_rfl) (by kernel_rfl) (fun _ _ _ h => h) (Or.inl ⟨by rfl, ?_⟩) (by assumption) ?_; rotate_left 1; · (intro w _; go_simp; all_goals with_reducible rfl)
            try simp only [Act.put, q3]
            refine wpAnyH_take (i := 15) (oi := ⟨some 25, .fieldAddr 32 (.tmp 24) 1, 0, "ref.go:89", #[⟨14, .data⟩, ⟨6, .guard⟩], some (6, true)⟩) (v := ?_) rfl (by kernel_rfl) (by kernel_rfl) (by kernel_rfl) (fun _ _ _ h => h) (Or.inl ⟨by rfl, ?_⟩) (by assumption) ?_; rotate_left 1; · (intro w _; go_simp; all_goals with_reducible rfl)
            try simp only [Act.put, q3]
            refine wpAnyH_take (i := 16) (oi := ⟨some 26, .load 9 (.tmp 25), 9, "ref.go:89", #[⟨15, .data⟩, ⟨6, .guard⟩], some (6, true)⟩) (v := ?_) rfl (by kernel_rfl) (by kernel_rfl) (by kernel_rfl) (fun _ _ _ h => h) (Or.inl ⟨by rfl, ?_⟩) (by assumption) ?_; rotate_left 1; · (intro w hSw; (try dsimp only at hSw); go_simp; all_goals with_reducible rfl)
            try simp only [Act.put, q3]
            refine wpAnyH_take (i := 17) (oi := ⟨some 27, .move (.tmp 0), 30, "ref.go:89", #[⟨6, .guard⟩], some (6, true)⟩) (v := ?_) rfl (by kernel_rfl) (by kernel_rfl) (by kernel_rfl) (fun _ _ _ h => h) (Or.inl ⟨by rfl, ?_⟩) (by assumption) ?_; rotate_left 1; · (intro w _; go_simp; all_goals with_reducible rfl)
            try simp only [Act.put, q3]
            refine wpAnyH_take (i := 18) (oi := ⟨some 28, .move (.tmp 3), 3, "ref.go:89", #[⟨6, .guard⟩], some (6, true)⟩) (v := ?_) rfl (by kernel_rfl) (by kernel_rfl) (by kernel_rfl) (fun _ _ _ h => h) (Or.inl ⟨by rfl, ?_⟩) (by assumption) ?_; rotate_left 1; · (intro w _; go_simp; all_goals with_reducible rfl)
            try simp only [Act.put, q3]
            refine wpAnyH_take (i := 19) (oi := ⟨some 29, .indexAddr 30 (.tmp 27) (.tmp 28), 0, "ref.go:89", #[⟨17, .data⟩, ⟨18, .data⟩, ⟨6, .guard⟩], some (6, true)⟩) (v := ?_) rfl (by kernel_rfl) (by kernel_rfl) (by kernel_rfl) (fun _ _ _ h => h) (Or.inl ⟨by rfl, ?_⟩) (by assumption) ?_; rotate_left 1; · (intro w _; go_simp; all_goals with_reducible rfl)
            try simp only [Act.put, q3]
            refine wpAnyH_take (i := 20) (oi := ⟨some 30, .fieldAddr 32 (.tmp 29) 2, 0, "ref.go:89", #[⟨19, .data⟩, ⟨6, .guard⟩], some (6, true)⟩) (v := ?_) rfl (by kernel_rfl) (by kernel_rfl) (by kernel_rfl) (fun _ _ _ h => h) (Or.inl ⟨by rfl, ?_⟩) (by assumption) ?_; rotate_left 1; · (intro w _; go_simp; all_goals with_reducible rfl)
            try simp only [Act.put, q3]
            refine wpAnyH_take (i := 21) (oi := ⟨some 31, .load 29 (.tmp 30), 29, "ref.go:89", #[⟨20, .data⟩, ⟨6, .guard⟩], some (6, true)⟩) (v := ?_) rfl (by kernel_rfl) (by kernel_rfl) (by kernel_rfl) (fun _ _ _ h => h) (Or.inl ⟨by rfl, ?_⟩) (by assumption) ?_; rotate_left 1; · (intro w hSw; (try dsimp only at hSw); go_simp; all_goals with_reducible rfl)
            try simp only [Act.put, q3]
            refine wpAnyH_ready (rs := [22]) (by kernel_rfl) (by simp) ?_
            refine AllReadyH.cons (o := ⟨some 32, .call { callee := .value (.func 64), args := #[.tmp 31], argTypes := #[29] }, 9, "ref.go:89", #[⟨21, .data⟩, ⟨6, .chain⟩, ⟨6, .guard⟩], some (6, true)⟩) rfl (fun K hK => ?_) AllReadyH.nil
            go_simp
            go_at_call 64
            refine (sorts_calls A2 c2 s.f2 HS.out.drew HA.out.1 HA.out.2.1 HA.out.2.2.1).mono ?_
            rintro e w2 ⟨rfl, h2⟩
            refine hK.out _ _ ?_ (fun hHeld => ?_)
            · exact HC5.out _ _ h2
            clear hK K
            try simp only [Act.put, q3]
            refine wpAnyH_ready (rs := [23]) (by kernel_rfl) (by simp) ?_
            refine AllReadyH.cons (o := ⟨some 33, .call { callee := .value (.func 63), args := #[.tmp 21, .tmp 26, .tmp 32], argTypes := #[3, 9, 9] }, 4, "ref.go:89", #[⟨11, .data⟩, ⟨16, .data⟩, ⟨22, .data⟩, ⟨22, .chain⟩, ⟨6, .guard⟩], some (6, true)⟩) rfl (fun K hK => ?_) AllReadyH.nil
            go_simp
            go_at_call 63
            refine (right_calls s h2 HA.out.2.2.1 HQ2.out).mono ?_
            rintro e w3 ⟨rfl, h3⟩
            rw [HT.out]
            refine hK.out _ _ ?_ (fun hHeld => ?_)
            · exact HC5.out _ _ h3
            clear hK K
            try simp only [Act.put, q3]
            refine wpAnyH_take (i := 24) (oi := ⟨some 34, .unOp .not 4 (.tmp 33), 4, "ref.go:89", #[⟨23, .data⟩, ⟨6, .guard⟩], some (6, true)⟩) (v := ?_) rfl (by kernel_rfl) (by kernel_rfl) (by kernel_rfl) (fun _ _ _ h => h) (Or.inl ⟨by rfl, ?_⟩) (by assumption) ?_; rotate_left 1; · (intro w _; go_simp; all_goals with_reducible rfl)
            try simp only [Act.put, q3]
            refine wpAnyH_take (i := 25) (oi := ⟨some 35, .pick (.tmp 16) (.tmp 34) (.const (.bool false)), 4, "ref.go:89", #[⟨6, .data⟩, ⟨24, .data⟩], none⟩) (v := ?_) rfl (by kernel_rfl) (by kernel_rfl) (by kernel_rfl) (fun _ _ _ h => h) (Or.inl ⟨by rfl, ?_⟩) (by assumption) ?_; rotate_left 1; · (intro w _; go_simp; all_goals with_reducible rfl)
            try simp only [Act.put, q3]
            refine wpAnyH_take (i := 26) (oi := ⟨some 36, .move (.tmp 35), 4, "ref.go:89", #[⟨25, .data⟩, ⟨23, .chain⟩], none⟩) (v := ?_) rfl (by kernel_rfl) (by kernel_rfl) (by kernel_rfl) (fun _ _ _ h => h) (Or.inl ⟨by rfl, ?_⟩) (by assumption) ?_; rotate_left 1; · (intro w _; go_simp; all_goals with_reducible rfl)
            try simp only [Act.put, q3]
            refine wpAnyH_take (i := 27) (oi := ⟨some 37, .move (.tmp 0), 30, "ref.go:89", #[⟨26, .guard⟩], some (26, false)⟩) (v := ?_) rfl (by kernel_rfl) (by kernel_rfl) (by kernel_rfl) (fun _ _ _ h => h) (Or.inl ⟨by rfl, ?_⟩) (by assumption) ?_; rotate_left 1; · (intro w _; go_simp; all_goals with_reducible rfl)
            try simp only [Act.put, q3]
            refine wpAnyH_take (i := 28) (oi := ⟨some 38, .move (.tmp 3), 3, "ref.go:89", #[⟨26, .guard⟩], some (26, false)⟩) (v := ?_) rfl (by kernel_rfl) (by kernel_rfl) (by kernel_rfl) (fun _ _ _ h => h) (Or.inl ⟨by rfl, ?_⟩) (by assumption) ?_; rotate_left 1; · (intro w _; go_simp; all_goals with_reducible rfl)
            try simp only [Act.put, q3]
            refine wpAnyH_take (i := 29) (oi := ⟨some 39, .indexAddr 30 (.tmp 37) (.tmp 38), 0, "ref.go:89", #[⟨27, .data⟩, ⟨28, .data⟩, ⟨26, .guard⟩], some (26, false)⟩) (v := ?_) rfl (by kernel_rfl) (by kernel_rfl) (by kernel_rfl) (fun _ _ _ h => h) (Or.inl ⟨by rfl, ?_⟩) (by assumption) ?_; rotate_left 1; · (intro w _; go_simp; all_goals with_reducible rfl)
            try simp only [Act.put, q3]
            refine wpAnyH_take (i := 30) (oi := ⟨some 40, .fieldAddr 32 (.tmp 39) 3, 0, "ref.go:89", #[⟨29, .data⟩, ⟨26, .guard⟩], some (26, false)⟩) (v := ?_) rfl (by kernel_rfl) (by kernel_rfl) (by kernel_rfl) (fun _ _ _ h => h) (Or.inl ⟨by rfl, ?_⟩) (by assumption) ?_; rotate_left 1; · (intro w _; go_simp; all_goals with_reducible rfl)
            try simp only [Act.put, q3]
            refine wpAnyH_take (i := 31) (oi := ⟨some 41, .load 30 (.tmp 40), 30, "ref.go:89", #[⟨30, .data⟩, ⟨26, .guard⟩], some (26, false)⟩) (v := ?_) rfl (by kernel_rfl) (by kernel_rfl) (by kernel_rfl) (fun _ _ _ h => h) (Or.inl ⟨by rfl, ?_⟩) (by assumption) ?_; rotate_left 1; · (intro w hSw; (try dsimp only at hSw); go_simp; all_goals with_reducible rfl)
            try simp only [Act.put, q3]
            refine wpAnyH_ready (rs := [32]) (by kernel_rfl) (by simp) ?_
            refine AllReadyH.cons (o := ⟨some 42, .call { callee := .value (.func 37), args := #[.tmp 41], argTypes := #[30] }, 4, "ref.go:89", #[⟨31, .data⟩, ⟨26, .chain⟩, ⟨26, .guard⟩], some (26, false)⟩) rfl (fun K hK => ?_) AllReadyH.nil
            go_simp
            go_at_call 37
            refine (H3.out.1 _ _ A3 c3 h3 HA.out.2.2.2.1 HA.out.2.2.2.2.1 H3.out.2.2.1).mono ?_
            rintro e w4 ⟨rfl, h4⟩
            rw [HF3.out]
            refine hK.out _ _ ?_ (fun hHeld => ?_)
            · exact HC5.out _ _ h4
            clear hK K
            try simp only [Act.put, q3]
            refine wpAnyH_take (i := 33) (oi := ⟨some 43, .unOp .not 4 (.tmp 42), 4, "ref.go:89", #[⟨32, .data⟩, ⟨26, .guard⟩], some (26, false)⟩) (v := ?_) rfl (by kernel_rfl) (by kernel_rfl) (by kernel_rfl) (fun _ _ _ h => h) (Or.inl ⟨by rfl, ?_⟩) (by assumption) ?_; rotate_left 1; · (intro w _; go_simp; all_goals with_reducible rfl)
            try simp only [Act.put, q3]
            refine wpAnyH_take (i := 34) (oi := ⟨some 44, .pick (.tmp 36) (.const (.bool true)) (.tmp 43), 4, "ref.go:89", #[⟨26, .data⟩, ⟨33, .data⟩], none⟩) (v := ?_) rfl (by kernel_rfl) (by kernel_rfl) (by kernel_rfl) (fun _ _ _ h => h) (Or.inl ⟨by rfl, ?_⟩) (by assumption) ?_; rotate_left 1; · (intro w _; go_simp; all_goals with_reducible rfl)
            try simp only [Act.put, q3]
            refine wpAnyH_take (i := 35) (oi := ⟨some 45, .move (.tmp 44), 4, "ref.go:89", #[⟨34, .data⟩, ⟨32, .chain⟩], none⟩) (v := ?_) rfl (by kernel_rfl) (by kernel_rfl) (by kernel_rfl) (fun _ _ _ h => h) (Or.inl ⟨by rfl, ?_⟩) (by assumption) ?_; rotate_left 1; · (intro w _; go_simp; all_goals with_reducible rfl)
            try simp only [Act.put, q3]
            refine wpAnyH_take (i := 36) (oi := ⟨some 46, .move (.tmp 0), 30, "ref.go:89", #[⟨35, .guard⟩], some (35, false)⟩) (v := undef) rfl (by kernel_rfl) (by kernel_rfl) (by kernel_rfl) (fun _ _ _ h => h) (Or.inr ⟨by rfl, rfl⟩) (by assumption) ?_
            try simp only [Act.put, q3]
            refine wpAnyH_take (i := 37) (oi := ⟨some 47, .move (.tmp 3), 3, "ref.go:89", #[⟨35, .guard⟩], some (35, false)⟩) (v := undef) rfl (by kernel_rfl) (by kernel_rfl) (by kernel_rfl) (fun _ _ _ h => h) (Or.inr ⟨by rfl, rfl⟩) (by assumption) ?_
            try simp only [Act.put, q3]
            refine wpAnyH_take (i := 38) (oi := ⟨some 48, .indexAddr 30 (.tmp 46) (.tmp 47), 0, "ref.go:89", #[⟨36, .data⟩, ⟨37, .data⟩, ⟨35, .guard⟩], some (35, false)⟩) (v := undef) rfl (by kernel_rfl) (by kernel_rfl) (by kernel_rfl) (fun _ _ _ h => h) (Or.inr ⟨by rfl, rfl⟩) (by assumption) ?_
            try simp only [Act.put, q3]
            refine wpAnyH_take (i := 39) (oi := ⟨some 49, .fieldAddr 32 (.tmp 48) 4, 0, "ref.go:89", #[⟨38, .data⟩, ⟨35, .guard⟩], some (35, false)⟩) (v := undef) rfl (by kernel_rfl) (by kernel_rfl) (by kernel_rfl) (fun _ _ _ h => h) (Or.inr ⟨by rfl, rfl⟩) (by assumption) ?_
            try simp only [Act.put, q3]
            refine wpAnyH_take (i := 40) (oi := ⟨some 50, .load 30 (.tmp 49), 30, "ref.go:89", #[⟨39, .data⟩, ⟨35, .guard⟩], some (35, false)⟩) (v := undef) rfl (by kernel_rfl) (by kernel_rfl) (by kernel_rfl) (fun _ _ _ h => h) (Or.inr ⟨by rfl, rfl⟩) (by assumption) ?_
            try simp only [Act.put, q3]
            refine wpAnyH_take (i := 41) (oi := ⟨some 51, .call { callee := .value (.func 37), args := #[.tmp 50], argTypes := #[30] }, 4, "ref.go:89", #[⟨40, .data⟩, ⟨35, .chain⟩, ⟨35, .guard⟩], some (35, false)⟩) (v := undef) rfl (by kernel_rfl) (by kernel_rfl) (by kernel_rfl) (fun _ _ _ h => h) (Or.inr ⟨by rfl, rfl⟩) (by assumption) ?_
            try simp only [Act.put, q3]
            refine wpAnyH_take (i := 42) (oi := ⟨some 52, .unOp .not 4 (.tmp 51), 4, "ref.go:89", #[⟨41, .data⟩, ⟨35, .guard⟩], some (35, false)⟩) (v := undef) rfl (by kernel_rfl) (by kernel_rfl) (by kernel_rfl) (fun _ _ _ h => h) (Or.inr ⟨by rfl, rfl⟩) (by assumption) ?_
            try simp only [Act.put, q3]
            refine wpAnyH_take (i := 43) (oi := ⟨some 53, .pick (.tmp 45) (.const (.bool true)) (.tmp 52), 4, "ref.go:89", #[⟨35, .data⟩, ⟨42, .data⟩], none⟩) (v := ?_) rfl (by kernel_rfl) (by kernel_rfl) (by kernel_rfl) (fun _ _ _ h => h) (Or.inl ⟨by rfl, ?_⟩) (by assumption) ?_; rotate_left 1; · (intro w _; go_simp; all_goals with_reducible rfl)
            try simp only [Act.put, q3]
            refine wpAnyH_done (by kernel_rfl) ?_ _
            have HL := Lib.hid h4
            clear d0 d1 d2 d3 d4
            go_wp2
            go_ret
            exact ⟨by rw [HV.out]; rfl, HL.out⟩
          | true =>
            have HF3 := Lib.hid hf3
            cases hf4 : allB typedB s.f4 with
            | false =>
              have HF4 := Lib.hid hf4
              have HV : Hid (allB typedB l = false) := Lib.hid (by rw [← HN.out, HD.out, HT.out, hf3, hf4]; rfl)
              clear hf3 hf4
              go_wp2_with fail
              refine wp_region_held_drew (S := (fun w' => w'.cell? (ad.add (x.toNat * 5)) = some (.int .i64 s.f0) ∧ w'.cell? ⟨(ad.add (x.toNat * 5)).block, (ad.add (x.toNat * 5)).off + 1, none⟩ = some (.string s.f1) ∧ w'.cell? ⟨(ad.add (x.toNat * 5)).block, (ad.add (x.toNat * 5)).off + 2, none⟩ = some (.slice A2 s.f2.length c2) ∧ w'.cell? ⟨(ad.add (x.toNat * 5)).block, (ad.add (x.toNat * 5)).off + 3, none⟩ = some (.slice A3 s.f3.length c3) ∧ w'.cell? ⟨(ad.add (x.toNat * 5)).block, (ad.add (x.toNat * 5)).off + 4, none⟩ = some (.slice A4 s.f4.length c4))) (by kernel_rfl) ?_ (fun hHeld => ?_)
              · exact ⟨d0, d1, d2, d3, d4⟩
              refine wpAnyH_take (i := 0) (oi := ⟨some 10, .move (.tmp 0), 30, "ref.go:89", #[], none⟩) (v := ?_) rfl (by kernel_rfl) (by kernel_rfl) (by kernel_rfl) (fun _ _ _ h => h) (Or.inl ⟨by rfl, ?_⟩) (by assumption) ?_; rotate_left 1; · (intro w _; go_simp; all_goals with_reducible rfl)
              try simp only [Act.put, q3]
              refine wpAnyH_take (i := 1) (oi := ⟨some 11, .move (.tmp 3), 3, "ref.go:89", #[], none⟩) (v := ?_) rfl (by kernel_rfl) (by kernel_rfl) (by kernel_rfl) (fun _ _ _ h => h) (Or.inl ⟨by rfl, ?_⟩) (by assumption) ?_; rotate_left 1; · (intro w _; go_simp; all_goals with_reducible rfl)
              try simp only [Act.put, q3]
              refine wpAnyH_take (i := 2) (oi := ⟨some 12, .indexAddr 30 (.tmp 10) (.tmp 11), 0, "ref.go:89", #[⟨0, .data⟩, ⟨1, .data⟩], none⟩) (v := ?_) rfl (by kernel_rfl) (by kernel_rfl) (by kernel_rfl) (fun _ _ _ h => h) (Or.inl ⟨by rfl, ?_⟩) (by assumption) ?_; rotate_left 1; · (intro w _; go_simp; all_goals with_reducible rfl)
              try simp only [Act.put, q3]
              refine wpAnyH_take (i := 3) (oi := ⟨some 13, .fieldAddr 32 (.tmp 12) 0, 0, "ref.go:89", #[⟨2, .data⟩], none⟩) (v := ?_) rfl (by kernel_rfl) (by kernel_rfl) (by kernel_rfl) (fun _ _ _ h => h) (Or.inl ⟨by rfl, ?_⟩) (by assumption) ?_; rotate_left 1; · (intro w _; go_simp; all_goals with_reducible rfl)
              try simp only [Act.put, q3]
              refine wpAnyH_take (i := 4) (oi := ⟨some 14, .load 3 (.tmp 13), 3, "ref.go:89", #[⟨3, .data⟩], none⟩) (v := ?_) rfl (by kernel_rfl) (by kernel_rfl) (by kernel_rfl) (fun _ _ _ h => h) (Or.inl ⟨by rfl, ?_⟩) (by assumption) ?_; rotate_left 1; · (intro w hSw; (try dsimp only at hSw); go_simp; all_goals with_reducible rfl)
              try simp only [Act.put, q3]
              refine wpAnyH_take (i := 5) (oi := ⟨some 15, .binOp .neq 3 (.tmp 14) (.const (.int .i64 2)) 3, 4, "ref.go:89", #[⟨4, .data⟩], none⟩) (v := ?_) rfl (by kernel_rfl) (by kernel_rfl) (by kernel_rfl) (fun _ _ _ h => h) (Or.inl ⟨by rfl, ?_⟩) (by assumption) ?_; rotate_left 1; · (intro w _; go_simp; all_goals with_reducible rfl)
              try simp only [Act.put, q3]
              refine wpAnyH_take (i := 6) (oi := ⟨some 16, .move (.tmp 15), 4, "ref.go:89", #[⟨5, .data⟩], none⟩) (v := ?_) rfl (by kernel_rfl) (by kernel_rfl) (by kernel_rfl) (fun _ _ _ h => h) (Or.inl ⟨by rfl, ?_⟩) (by assumption) ?_; rotate_left 1; · (intro w _; go_simp; all_goals with_reducible rfl)
              try simp only [Act.put, q3]
              refine wpAnyH_take (i := 7) (oi := ⟨some 17, .move (.tmp 0), 30, "ref.go:89", #[⟨6, .guard⟩], some (6, true)⟩) (v := ?_) rfl (by kernel_rfl) (by kernel_rfl) (by kernel_rfl) (fun _ _ _ h => h) (Or.inl ⟨by rfl, ?_⟩) (by assumption) ?_; rotate_left 1; · (intro w _; go_simp; all_goals with_reducible rfl)
              try simp only [Act.put, q3]
              refine wpAnyH_take (i := 8) (oi := ⟨some 18, .move (.tmp 3), 3, "ref.go:89", #[⟨6, .guard⟩], some (6, true)⟩) (v := ?_) rfl (by kernel_rfl) (by kernel_rfl) (by kernel_rfl) (fun _ _ _ h => h) (Or.inl ⟨by rfl, ?_⟩) (by assumption) ?_; rotate_left 1; · (intro w _; go_simp; all_goals with_reducible rfl)
              try simp only [Act.put, q3]
              refine wpAnyH_take (i := 9) (oi := ⟨some 19, .indexAddr 30 (.tmp 17) (.tmp 18), 0, "ref.go:89", #[⟨7, .data⟩, ⟨8, .data⟩, ⟨6, .guard⟩], some (6, true)⟩) (v := ?_) rfl (by kernel_rfl) (by kernel_rfl) (by kernel_rfl) (fun _ _ _ h => h) (Or.inl ⟨by rfl, ?_⟩) (by assumption) ?_; rotate_left 1; · (intro w _; go_simp; all_goals with_reducible rfl)
              try simp only [Act.put, q3]
              refine wpAnyH_take (i := 10) (oi := ⟨some 20, .fieldAddr 32 (.tmp 19) 0, 0, "ref.go:89", #[⟨9, .data⟩, ⟨6, .guard⟩], some (6, true)⟩) (v := ?_) rfl (by kernel_rfl) (by kernel_rfl) (by kernel_rfl) (fun _ _ _ h => h) (Or.inl ⟨by rfl, ?_⟩) (by assumption) ?_; rotate_left 1; · (intro w _; go_simp; all_goals with_reducible rfl)
              try simp only [Act.put, q3]
              refine wpAnyH_take (i := 11) (oi := ⟨some 21, .load 3 (.tmp 20), 3, "ref.go:89", #[⟨10, .data⟩, ⟨6, .guard⟩], some (6, true)⟩) (v := ?_) rfl (by kernel_rfl) (by kernel_rfl) (by kernel_rfl) (fun _ _ _ h => h) (Or.inl ⟨by rfl, ?_⟩) (by assumption) ?_; rotate_left 1; · (intro w hSw; (try dsimp only at hSw); go_simp; all_goals with_reducible rfl)
              try simp only [Act.put, q3]
              refine wpAnyH_take (i := 12) (oi := ⟨some 22, .move (.tmp 0), 30, "ref.go:89", #[⟨6, .guard⟩], some (6, true)⟩) (v := ?_) rfl (by kernel_rfl) (by kernel_rfl) (by kernel_rfl) (fun _ _ _ h => h) (Or.inl ⟨by rfl, ?_⟩) (by assumption) ?_; rotate_left 1; · (intro w _; go_simp; all_goals with_reducible rfl)
              try simp only [Act.put, q3]
              refine wpAnyH_take (i := 13) (oi := ⟨some 23, .move (.tmp 3), 3, "ref.go:89", #[⟨6, .guard⟩], some (6, true)⟩) (v := ?_) rfl (by kernel_rfl) (by kernel_rfl) (by kernel_rfl) (fun _ _ _ h => h) (Or.inl ⟨by rfl, ?_⟩) (by assumption) ?_; rotate_left 1; · (intro w _; go_simp; all_goals with_reducible rfl)
              try simp only [Act.put, q3]
              refine wpAnyH_take (i := 14) (oi := ⟨some 24, .indexAddr 30 (.tmp 22) (.tmp 23), 0, "ref.go:89", #[⟨12, .data⟩, ⟨13, .data⟩, ⟨6, .guard⟩], some (6, true)⟩) (v := ?_) rfl (by kernel_rfl) (by kernel_rfl) (by kernel_rfl) (fun _ _ _ h => h) (Or.inl ⟨by rfl, ?_⟩) (by assumption) ?_; rotate_left 1; · (intro w _; go_simp; all_goals with_reducible rfl)
              try simp only [Act.put, q3]
              refine wpAnyH_take (i := 15) (oi := ⟨some 25, .fieldAddr 32 (.tmp 24) 1, 0, "ref.go:89", #[⟨14, .data⟩, ⟨6, .guard⟩], some (6, true)⟩) (v := ?_) rfl (by kernel_rfl) (by kernel_rfl) (by kernel_rfl) (fun _ _ _ h => h) (Or.inl ⟨by rfl, ?_⟩) (by assumption) ?_; rotate_left 1; · (intro w _; go_simp; all_goals with_reducible rfl)
              try simp only [Act.put, q3]
              refine wpAnyH_take (i := 16) (oi := ⟨some 26, .load 9 (.tmp 25), 9, "ref.go:89", #[⟨15, .data⟩, ⟨6, .guard⟩], some (6, true)⟩) (v := ?_) rfl (by kernel_rfl) (by kernel_rfl) (by kernel_rfl) (fun _ _ _ h => h) (Or.inl ⟨by rfl, ?_⟩) (by assumption) ?_; rotate_left 1; · (intro w hSw; (try dsimp only at hSw); go_simp; all_goals with_reducible rfl)
              try simp only [Act.put, q3]
              refine wpAnyH_take (i := 17) (oi := ⟨some 27, .move (.tmp 0), 30, "ref.go:89", #[⟨6, .guard⟩], some (6, true)⟩) (v := ?_) rfl (by kernel_rfl) (by kernel_rfl) (by kernel_rfl) (fun _ _ _ h => h) (Or.inl ⟨by rfl, ?_⟩) (by assumption) ?_; rotate_left 1; · (intro w _; go_simp; all_goals with_reducible rfl)
              try simp only [Act.put, q3]
              refine wpAnyH_take (i := 18) (oi := ⟨some 28, .move (.tmp 3), 3, "ref.go:89", #[⟨6, .guard⟩], some (6, true)⟩) (v := ?_) rfl (by kernel_rfl) (by kernel_rfl) (by kernel_rfl) (fun _ _ _ h => h) (Or.inl ⟨by rfl, ?_⟩) (by assumption) ?_; rotate_left 1; · (intro w _; go_simp; all_goals with_reducible rfl)
              try simp only [Act.put, q3]
              refine wpAnyH_take (i := 19) (oi := ⟨some 29, .indexAddr 30 (.tmp 27) (.tmp 28), 0, "ref.go:89", #[⟨17, .data⟩, ⟨18, .data⟩, ⟨6, .guard⟩], some (6, true)⟩) (v := ?_) rfl (by kernel_rfl) (by kernel_rfl) (by kernel_rfl) (fun _ _ _ h => h) (Or.inl ⟨by rfl, ?_⟩) (by assumption) ?_; rotate_left 1; · (intro w _; go_simp; all_goals with_reducible rfl)
              try simp only [Act.put, q3]
              refine wpAnyH_take (i := 20) (oi := ⟨some 30, .fieldAddr 32 (.tmp 29) 2, 0, "ref.go:89", #[⟨19, .data⟩, ⟨6, .guard⟩], some (6, true)⟩) (v := ?_) rfl (by kernel_rfl) (by kernel_rfl) (by kernel_rfl) (fun _ _ _ h => h) (Or.inl ⟨by rfl, ?_⟩) (by assumption) ?_; rotate_left 1; · (intro w _; go_simp; all_goals with_reducible rfl)
              try simp only [Act.put, q3]
              refine wpAnyH_take (i := 21) (oi := ⟨some 31, .load 29 (.tmp 30), 29, "ref.go:89", #[⟨20, .data⟩, ⟨6, .guard⟩], some (6, true)⟩) (v := ?_) rfl (by kernel_rfl) (by kernel_rfl) (by kernel_rfl) (fun _ _ _ h => h) (Or.inl ⟨by rfl, ?_⟩) (by assumption) ?_; rotate_left 1; · (intro w hSw; (try dsimp only at hSw); go_simp; all_goals with_reducible rfl)
              try simp only [Act.put, q3]
              refine wpAnyH_ready (rs := [22]) (by kernel_rfl) (by simp) ?_
              refine AllReadyH.cons (o := ⟨some 32, .call { callee := .value (.func 64), args := #[.tmp 31], argTypes := #[29] }, 9, "ref.go:89", #[⟨21, .data⟩, ⟨6, .chain⟩, ⟨6, .guard⟩], some (6, true)⟩) rfl (fun K hK => ?_) AllReadyH.nil
              go_simp
              go_at_call 64
              refine (sorts_calls A2 c2 s.f2 HS.out.drew HA.out.1 HA.out.2.1 HA.out.2.2.1).mono ?_
              rintro e w2 ⟨rfl, h2⟩
              refine hK.out _ _ ?_ (fun hHeld => ?_)
              · exact HC5.out _ _ h2
              clear hK K
              try simp only [Act.put, q3]
              refine wpAnyH_ready (rs := [23]) (by kernel_rfl) (by simp) ?_
              refine AllReadyH.cons (o := ⟨some 33, .call { callee := .value (.func 63), args := #[.tmp 21, .tmp 26, .tmp 32], argTypes := #[3, 9, 9] }, 4, "ref.go:89", #[⟨11, .data⟩, ⟨16, .data⟩, ⟨22, .data⟩, ⟨22, .chain⟩, ⟨6, .guard⟩], some (6, true)⟩) rfl (fun K hK => ?_) AllReadyH.nil
              go_simp
              go_at_call 63
              refine (right_calls s h2 HA.out.2.2.1 HQ2.out).mono ?_
              rintro e w3 ⟨rfl, h3⟩
              rw [HT.out]
              refine hK.out _ _ ?_ (fun hHeld => ?_)
              · exact HC5.out _ _ h3
              clear hK K
              try simp only [Act.put, q3]
              refine wpAnyH_take (i := 24) (oi := ⟨some 34, .unOp .not 4 (.tmp 33), 4, "ref.go:89", #[⟨23, .data⟩, ⟨6, .guard⟩], some (6, true)⟩) (v := ?_) rfl (by kernel_rfl) (by kernel_rfl) (by kernel_rfl) (fun _ _ _ h => h) (Or.inl ⟨by rfl, ?_⟩) (by assumption) ?_; rotate_left 1; · (intro w _; go_simp; all_goals with_reducible rfl)
              try simp only [Act.put, q3]
              refine wpAnyH_take (i := 25) (oi := ⟨some 35, .pick (.tmp 16) (.tmp 34) (.const (.bool false)), 4, "ref.go:89", #[⟨6, .data⟩, ⟨24, .data⟩], none⟩) (v := ?_) rfl (by kernel_rfl) (by kernel_rfl) (by kernel_rfl) (fun _ _ _ h => h) (Or.inl ⟨by rfl, ?_⟩) (by assumption) ?_; rotate_left 1; · (intro w _; go_simp; all_goals with_reducible rfl)
              try simp only [Act.put, q3]
              refine wpAnyH_take (i := 26) (oi := ⟨some 36, .move (.tmp 35), 4, "ref.go:89", #[⟨25, .data⟩, ⟨23, .chain⟩], none⟩) (v := ?_) rfl (by kernel_rfl) (by kernel_rfl) (by kernel_rfl) (fun _ _ _ h => h) (Or.inl ⟨by rfl, ?_⟩) (by assumption) ?_; rotate_left 1; · (intro w _; go_simp; all_goals with_reducible rfl)
              try simp only [Act.put, q3]
              refine wpAnyH_take (i := 27) (oi := ⟨some 37, .move (.tmp 0), 30, "ref.go:89", #[⟨26, .guard⟩], some (26, false)⟩) (v := ?_) rfl (by kernel_rfl) (by kernel_rfl) (by kernel_rfl) (fun _ _ _ h => h) (Or.inl ⟨by rfl, ?_⟩) (by assumption) ?_; rotate_left 1; · (intro w _; go_simp; all_goals with_reducible rfl)
              try simp only [Act.put, q3]
              refine wpAnyH_take (i := 28) (oi := ⟨some 38, .move (.tmp 3), 3, "ref.go:89", #[⟨26, .guard⟩], some (26, false)⟩) (v := ?_) rfl (by kernel_rfl) (by kernel_rfl) (by kernel_rfl) (fun _ _ _ h => h) (Or.inl ⟨by rfl, ?_⟩) (by assumption) ?_; rotate_left 1; · (intro w _; go_simp; all_goals with_reducible rfl)
              try simp only [Act.put, q3]
              refine wpAnyH_take (i := 29) (oi := ⟨some 39, .indexAddr 30 (.tmp 37) (.tmp 38), 0, "ref.go:89", #[⟨27, .data⟩, ⟨28, .data⟩, ⟨26, .guard⟩], some (26, false)⟩) (v := ?_) rfl (by kernel_rfl) (by kernel_rfl) (by kernel_rfl) (fun _ _ _ h => h) (Or.inl ⟨by rfl, ?_⟩) (by assumption) ?_; rotate_left 1; · (intro w _; go_simp; all_goals with_reducible rfl)
              try simp only [Act.put, q3]
              refine wpAnyH_take (i := 30) (oi := ⟨some 40, .fieldAddr 32 (.tmp 39) 3, 0, "ref.go:89", #[⟨29, .data⟩, ⟨26, .guard⟩], some (26, false)⟩) (v := ?_) rfl (by kernel_rfl) (by kernel_rfl) (by kernel_rfl) (fun _ _ _ h => h) (Or.inl ⟨by rfl, ?_⟩) (by assumption) ?_; rotate_left 1; · (intro w _; go_simp; all_goals with_reducible rfl)
              try simp only [Act.put, q3]
              refine wpAnyH_take (i := 31) (oi := ⟨some 41, .load 30 (.tmp 40), 30, "ref.go:89", #[⟨30, .data⟩, ⟨26, .guard⟩], some (26, false)⟩) (v := ?_) rfl (by kernel_rfl) (by kernel_rfl) (by kernel_rfl) (fun _ _ _ h => h) (Or.inl ⟨by rfl, ?_⟩) (by assumption) ?_; rotate_left 1; · (intro w hSw; (try dsimp only at hSw); go_simp; all_goals with_reducible rfl)
              try simp only [Act.put, q3]
              refine wpAnyH_ready (rs := [32]) (by kernel_rfl) (by simp) ?_
              refine AllReadyH.cons (o := ⟨some 42, .call { callee := .value (.func 37), args := #[.tmp 41], argTypes := #[30] }, 4, "ref.go:89", #[⟨31, .data⟩, ⟨26, .chain⟩, ⟨26, .guard⟩], some (26, false)⟩) rfl (fun K hK => ?_) AllReadyH.nil
              go_simp
              go_at_call 37
              refine (H3.out.1 _ _ A3 c3 h3 HA.out.2.2.2.1 HA.out.2.2.2.2.1 H3.out.2.2.1).mono ?_
              rintro e w4 ⟨rfl, h4⟩
              rw [HF3.out]
              refine hK.out _ _ ?_ (fun hHeld => ?_)
              · exact HC5.out _ _ h4
              clear hK K
              try simp only [Act.put, q3]
              refine wpAnyH_take (i := 33) (oi := ⟨some 43, .unOp .not 4 (.tmp 42), 4, "ref.go:89", #[⟨32, .data⟩, ⟨26, .guard⟩], some (26, false)⟩) (v := ?_) rfl (by kernel_rfl) (by kernel_rfl) (by kernel_rfl) (fun _ _ _ h => h) (Or.inl ⟨by rfl, ?_⟩) (by assumption) ?_; rotate_left 1; · (intro w _; go_simp; all_goals with_reducible rfl)
              try simp only [Act.put, q3]
              refine wpAnyH_take (i := 34) (oi := ⟨some 44, .pick (.tmp 36) (.const (.bool true)) (.tmp 43), 4, "ref.go:89", #[⟨26, .data⟩, ⟨33, .data⟩], none⟩) (v := ?_) rfl (by kernel_rfl) (by kernel_rfl) (by kernel_rfl) (fun _ _ _ h => h) (Or.inl ⟨by rfl, ?_⟩) (by assumption) ?_; rotate_left 1; · (intro w _; go_simp; all_goals with_reducible rfl)
              try simp only [Act.put, q3]
              refine wpAnyH_take (i := 35) (oi := ⟨some 45, .move (.tmp 44), 4, "ref.go:89", #[⟨34, .data⟩, ⟨32, .chain⟩], none⟩) (v := ?_) rfl (by kernel_rfl) (by kernel_rfl) (by kernel_rfl) (fun _ _ _ h => h) (Or.inl ⟨by rfl, ?_⟩) (by assumption) ?_; rotate_left 1; · (intro w _; go_simp; all_goals with_reducible rfl)
              try simp only [Act.put, q3]
              refine wpAnyH_take (i := 36) (oi := ⟨some 46, .move (.tmp 0), 30, "ref.go:89", #[⟨35, .guard⟩], some (35, false)⟩) (v := ?_) rfl (by kernel_rfl) (by kernel_rfl) (by kernel_rfl) (fun _ _ _ h => h) (Or.inl ⟨by rfl, ?_⟩) (by assumption) ?_; rotate_left 1; · (intro w _; go_simp; all_goals with_reducible rfl)
              try simp only [Act.put, q3]
              refine wpAnyH_take (i := 37) (oi := ⟨some 47, .move (.tmp 3), 3, "ref.go:89", #[⟨35, .guard⟩], some (35, false)⟩) (v := ?_) rfl (by kernel_rfl) (by kernel_rfl) (by kernel_rfl) (fun _ _ _ h => h) (Or.inl ⟨by rfl, ?_⟩) (by assumption) ?_; rotate_left 1; · (intro w _; go_simp; all_goals with_reducible rfl)
              try simp only [Act.put, q3]
              refine wpAnyH_take (i := 38) (oi := ⟨some 48, .indexAddr 30 (.tmp 46) (.tmp 47), 0, "ref.go:89", #[⟨36, .data⟩, ⟨37, .data⟩, ⟨35, .guard⟩], some (35, false)⟩) (v := ?_) rfl (by kernel_rfl) (by kernel_rfl) (by kernel_rfl) (fun _ _ _ h => h) (Or.inl ⟨by rfl, ?_⟩) (by assumption) ?_; rotate_left 1; · (intro w _; go_simp; all_goals with_reducible rfl)
              try simp only [Act.put, q3]
              refine wpAnyH_take (i := 39) (oi := ⟨some 49, .fieldAddr 32 (.tmp 48) 4, 0, "ref.go:89", #[⟨38, .data⟩, ⟨35, .guard⟩], some (35, false)⟩) (v := ?_) rfl (by kernel_rfl) (by kernel_rfl) (by kernel_rfl) (fun _ _ _ h => h) (Or.inl ⟨by rfl, ?_⟩) (by assumption) ?_; rotate_left 1; · (intro w _; go_simp; all_goals with_reducible rfl)
              try simp only [Act.put, q3]
              refine wpAnyH_take (i := 40) (oi := ⟨some 50, .load 30 (.tmp 49), 30, "ref.go:89", #[⟨39, .data⟩, ⟨35, .guard⟩], some (35, false)⟩) (v := ?_) rfl (by kernel_rfl) (by kernel_rfl) (by kernel_rfl) (fun _ _ _ h => h) (Or.inl ⟨by rfl, ?_⟩) (by assumption) ?_; rotate_left 1; · (intro w hSw; (try dsimp only at hSw); go_simp; all_goals with_reducible rfl)
              try simp only [Act.put, q3]
              refine wpAnyH_ready (rs := [41]) (by kernel_rfl) (by simp) ?_
              refine AllReadyH.cons (o := ⟨some 51, .call { callee := .value (.func 37), args := #[.tmp 50], argTypes := #[30] }, 4, "ref.go:89", #[⟨40, .data⟩, ⟨35, .chain⟩, ⟨35, .guard⟩], some (35, false)⟩) rfl (fun K hK => ?_) AllReadyH.nil
              go_simp
              go_at_call 37
              refine (H3.out.2.1 _ _ A4 c4 h4 HA.out.2.2.2.2.2.1 HA.out.2.2.2.2.2.2 H3.out.2.2.2).mono ?_
              rintro e w5 ⟨rfl, h5⟩
              rw [HF4.out]
              refine hK.out _ _ ?_ (fun hHeld => ?_)
              · exact HC5.out _ _ h5
              clear hK K
              try simp only [Act.put, q3]
              refine wpAnyH_take (i := 42) (oi := ⟨some 52, .unOp .not 4 (.tmp 51), 4, "ref.go:89", #[⟨41, .data⟩, ⟨35, .guard⟩], some (35, false)⟩) (v := ?_) rfl (by kernel_rfl) (by kernel_rfl) (by kernel_rfl) (fun _ _ _ h => h) (Or.inl ⟨by rfl, ?_⟩) (by assumption) ?_; rotate_left 1; · (intro w _; go_simp; all_goals with_reducible rfl)
              try simp only [Act.put, q3]
              refine wpAnyH_take (i := 43) (oi := ⟨some 53, .pick (.tmp 45) (.const (.bool true)) (.tmp 52), 4, "ref.go:89", #[⟨35, .data⟩, ⟨42, .data⟩], none⟩) (v := ?_) rfl (by kernel_rfl) (by kernel_rfl) (by kernel_rfl) (fun _ _ _ h => h) (Or.inl ⟨by rfl, ?_⟩) (by assumption) ?_; rotate_left 1; · (intro w _; go_simp; all_goals with_reducible rfl)
              try simp only [Act.put, q3]
              refine wpAnyH_done (by kernel_rfl) ?_ _
              have HL := Lib.hid h5
              clear d0 d1 d2 d3 d4
              go_wp2
              go_ret
              exact ⟨by rw [HV.out]; rfl, HL.out⟩
            | true =>
              have HF4 := Lib.hid hf4
              have HV : Hid (allB typedB (l.drop (x + 1).toNat) = allB typedB l) := Lib.hid (by rw [← HN.out, HD.out, HT.out, hf3, hf4]; rfl)
              clear hf3 hf4
              go_wp2_with fail
              refine wp_region_held_drew (S := (fun w' => w'.cell? (ad.add (x.toNat * 5)) = some (.int .i64 s.f0) ∧ w'.cell? ⟨(ad.add (x.toNat * 5)).block, (ad.add (x.toNat * 5)).off + 1, none⟩ = some (.string s.f1) ∧ w'.cell? ⟨(ad.add (x.toNat * 5)).block, (ad.add (x.toNat * 5)).off + 2, none⟩ = some (.slice A2 s.f2.length c2) ∧ w'.cell? ⟨(ad.add (x.toNat * 5)).block, (ad.add (x.toNat * 5)).off + 3, none⟩ = some (.slice A3 s.f3.length c3) ∧ w'.cell? ⟨(ad.add (x.toNat * 5)).block, (ad.add (x.toNat * 5)).off + 4, none⟩ = some (.slice A4 s.f4.length c4))) (by kernel_rfl) ?_ (fun hHeld => ?_)
              · exact ⟨d0, d1, d2, d3, d4⟩
              refine wpAnyH_take (i := 0) (oi := ⟨some 10, .move (.tmp 0), 30, "ref.go:89", #[], none⟩) (v := ?_) rfl (by kernel_rfl) (by kernel_rfl) (by kernel_rfl) (fun _ _ _ h => h) (Or.inl ⟨by rfl, ?_⟩) (by assumption) ?_; rotate_left 1; · (intro w _; go_simp; all_goals with_reducible rfl)
              try simp only [Act.put, q3]
              refine wpAnyH_take (i := 1) (oi := ⟨some 11, .move (.tmp 3), 3, "ref.go:89", #[], none⟩) (v := ?_) rfl (by kernel_rfl) (by kernel_rfl) (by kernel_rfl) (fun _ _ _ h => h) (Or.inl ⟨by rfl, ?_⟩) (by assumption) ?_; rotate_left 1; · (intro w _; go_simp; all_goals with_reducible rfl)
              try simp only [Act.put, q3]
              refine wpAnyH_take (i := 2) (oi := ⟨some 12, .indexAddr 30 (.tmp 10) (.tmp 11), 0, "ref.go:89", #[⟨0, .data⟩, ⟨1, .data⟩], none⟩) (v := ?_) rfl (by kernel_rfl) (by kernel_rfl) (by kernel_rfl) (fun _ _ _ h => h) (Or.inl ⟨by rfl, ?_⟩) (by assumption) ?_; rotate_left 1; · (intro w _; go_simp; all_goals with_reducible rfl)
              try simp only [Act.put, q3]
              refine wpAnyH_take (i := 3) (oi := ⟨some 13, .fieldAddr 32 (.tmp 12) 0, 0, "ref.go:89", #[⟨2, .data⟩], none⟩) (v := ?_) rfl (by kernel_rfl) (by kernel_rfl) (by kernel_rfl) (fun _ _ _ h => h) (Or.inl ⟨by rfl, ?_⟩) (by assumption) ?_; rotate_left 1; · (intro w _; go_simp; all_goals with_reducible rfl)
              try simp only [Act.put, q3]
              refine wpAnyH_take (i := 4) (oi := ⟨some 14, .load 3 (.tmp 13), 3, "ref.go:89", #[⟨3, .data⟩], none⟩) (v := ?_) rfl (by kernel_rfl) (by kernel_rfl) (by kernel_rfl) (fun _ _ _ h => h) (Or.inl ⟨by rfl, ?_⟩) (by assumption) ?_; rotate_left 1; · (intro w hSw; (try dsimp only at hSw); go_simp; all_goals with_reducible rfl)
              try simp only [Act.put, q3]
              refine wpAnyH_take (i := 5) (oi := ⟨some 15, .binOp .neq 3 (.tmp 14) (.const (.int .i64 2)) 3, 4, "ref.go:89", #[⟨4, .data⟩], none⟩) (v := ?_) rfl (by kernel_rfl) (by kernel_rfl) (by kernel_rfl) (fun _ _ _ h => h) (Or.inl ⟨by rfl, ?_⟩) (by assumption) ?_; rotate_left 1; · (intro w _; go_simp; all_goals with_reducible rfl)
              try simp only [Act.put, q3]
              refine wpAnyH_take (i := 6) (oi := ⟨some 16, .move (.tmp 15), 4, "ref.go:89", #[⟨5, .data⟩], none⟩) (v := ?_) rfl (by kernel_rfl) (by kernel_rfl) (by kernel_rfl) (fun _ _ _ h => h) (Or.inl ⟨by rfl, ?_⟩) (by assumption) ?_; rotate_left 1; · (intro w _; go_simp; all_goals with_reducible rfl)
              try simp only [Act.put, q3]
              refine wpAnyH_take (i := 7) (oi := ⟨some 17, .move (.tmp 0), 30, "ref.go:89", #[⟨6, .guard⟩], some (6, true)⟩) (v := ?_) rfl (by kernel_rfl) (by kernel_rfl) (by kernel_rfl) (fun _ _ _ h => h) (Or.inl ⟨by rfl, ?_⟩) (by assumption) ?_; rotate_left 1; · (intro w _; go_simp; all_goals with_reducible rfl)
              try simp only [Act.put, q3]
              refine wpAnyH_take (i := 8) (oi := ⟨some 18, .move (.tmp 3), 3, "ref.go:89", #[⟨6, .guard⟩], some (6, true)⟩) (v := ?_) rfl (by kernel_rfl) (by kernel_rfl) (by kernel_rfl) (fun _ _ _ h => h) (Or.inl ⟨by rfl, ?_⟩) (by assumption) ?_; rotate_left 1; · (intro w _; go_simp; all_goals with_reducible rfl)
              try simp only [Act.put, q3]
              refine wpAnyH_take (i := 9) (oi := ⟨some 19, .indexAddr 30 (.tmp 17) (.tmp 18), 0, "ref.go:89", #[⟨7, .data⟩, ⟨8, .data⟩, ⟨6, .guard⟩], some (6, true)⟩) (v := ?_) rfl (by kernel_rfl) (by kernel_rfl) (by kernel_rfl) (fun _ _ _ h => h) (Or.inl ⟨by rfl, ?_⟩) (by assumption) ?_; rotate_left 1; · (intro w _; go_simp; all_goals with_reducible rfl)
              try simp only [Act.put, q3]
              refine wpAnyH_take (i := 10) (oi := ⟨some 20, .fieldAddr 32 (.tmp 19) 0, 0, "ref.go:89", #[⟨9, .data⟩, ⟨6, .guard⟩], some (6, true)⟩) (v := ?_) rfl (by kernel_rfl) (by kernel_rfl) (by kernel_rfl) (fun _ _ _ h => h) (Or.inl ⟨by rfl, ?_⟩) (by assumption) ?_; rotate_left 1; · (intro w _; go_simp; all_goals with_reducible rfl)
              try simp only [Act.put, q3]
              refine wpAnyH_take (i := 11) (oi := ⟨some 21, .load 3 (.tmp 20), 3, "ref.go:89", #[⟨10, .data⟩, ⟨6, .guard⟩], some (6, true)⟩) (v := ?_) rfl (by kernel_rfl) (by kernel_rfl) (by kernel_rfl) (fun _ _ _ h => h) (Or.inl ⟨by rfl, ?_⟩) (by assumption) ?_; rotate_left 1; · (intro w hSw; (try dsimp only at hSw); go_simp; all_goals with_reducible rfl)
              try simp only [Act.put, q3]
              refine wpAnyH_take (i := 12) (oi := ⟨some 22, .move (.tmp 0), 30, "ref.go:89", #[⟨6, .guard⟩], some (6, true)⟩) (v := ?_) rfl (by kernel_rfl) (by kernel_rfl) (by kernel_rfl) (fun _ _ _ h => h) (Or.inl ⟨by rfl, ?_⟩) (by assumption) ?_; rotate_left 1; · (intro w _; go_simp; all_goals with_reducible rfl)
              try simp only [Act.put, q3]
              refine wpAnyH_take (i := 13) (oi := ⟨some 23, .move (.tmp 3), 3, "ref.go:89", #[⟨6, .guard⟩], some (6, true)⟩) (v := ?_) rfl (by kernel_rfl) (by kernel_rfl) (by kernel_rfl) (fun _ _ _ h => h) (Or.inl ⟨by rfl, ?_⟩) (by assumption) ?_; rotate_left 1; · (intro w _; go_simp; all_goals with_reducible rfl)
              try simp only [Act.put, q3]
              refine wpAnyH_take (i := 14) (oi := ⟨some 24, .indexAddr 30 (.tmp 22) (.tmp 23), 0, "ref.go:89", #[⟨12, .data⟩, ⟨13, .data⟩, ⟨6, .guard⟩], some (6, true)⟩) (v := ?_) rfl (by kernel_rfl) (by kernel_rfl) (by kernel_rfl) (fun _ _ _ h => h) (Or.inl ⟨by rfl, ?_⟩) (by assumption) ?_; rotate_left 1; · (intro w _; go_simp; all_goals with_reducible rfl)
              try simp only [Act.put, q3]
              refine wpAnyH_take (i := 15) (oi := ⟨some 25, .fieldAddr 32 (.tmp 24) 1, 0, "ref.go:89", #[⟨14, .data⟩, ⟨6, .guard⟩], some (6, true)⟩) (v := ?_) rfl (by kernel_rfl) (by kernel_rfl) (by kernel_rfl) (fun _ _ _ h => h) (Or.inl ⟨by rfl, ?_⟩) (by assumption) ?_; rotate_left 1; · (intro w _; go_simp; all_goals with_reducible rfl)
              try simp only [Act.put, q3]
              refine wpAnyH_take (i := 16) (oi := ⟨some 26, .load 9 (.tmp 25), 9, "ref.go:89", #[⟨15, .data⟩, ⟨6, .guard⟩], some (6, true)⟩) (v := ?_) rfl (by kernel_rfl) (by kernel_rfl) (by kernel_rfl) (fun _ _ _ h => h) (Or.inl ⟨by rfl, ?_⟩) (by assumption) ?_; rotate_left 1; · (intro w hSw; (try dsimp only at hSw); go_simp; all_goals with_reducible rfl)
              try simp only [Act.put, q3]
              refine wpAnyH_take (i := 17) (oi := ⟨some 27, .move (.tmp 0), 30, "ref.go:89", #[⟨6, .guard⟩], some (6, true)⟩) (v := ?_) rfl (by kernel_rfl) (by kernel_rfl) (by kernel_rfl) (fun _ _ _ h => h) (Or.inl ⟨by rfl, ?_⟩) (by assumption) ?_; rotate_left 1; · (intro w _; go_simp; all_goals with_reducible rfl)
              try simp only [Act.put, q3]
              refine wpAnyH_take (i := 18) (oi := ⟨some 28, .move (.tmp 3), 3, "ref.go:89", #[⟨6, .guard⟩], some (6, true)⟩) (v := ?_) rfl (by kernel_rfl) (by kernel_rfl) (by kernel_rfl) (fun _ _ _ h => h) (Or.inl ⟨by rfl, ?_⟩) (by assumption) ?_; rotate_left 1; · (intro w _; go_simp; all_goals with_reducible rfl)
              try simp only [Act.put, q3]
              refine wpAnyH_take (i := 19) (oi := ⟨some 29, .indexAddr 30 (.tmp 27) (.tmp 28), 0, "ref.go:89", #[⟨17, .data⟩, ⟨18, .data⟩, ⟨6, .guard⟩], some (6, true)⟩) (v := ?_) rfl (by kernel_rfl) (by kernel_rfl) (by kernel_rfl) (fun _ _ _ h => h) (Or.inl ⟨by rfl, ?_⟩) (by assumption) ?_; rotate_left 1; · (intro w _; go_simp; all_goals with_reducible rfl)
              try simp only [Act.put, q3]
              refine wpAnyH_take (i := 20) (oi := ⟨some 30, .fieldAddr 32 (.tmp 29) 2, 0, "ref.go:89", #[⟨19, .data⟩, ⟨6, .guard⟩], some (6, true)⟩) (v := ?_) rfl (by kernel_rfl) (by kernel_rfl) (by kernel_rfl) (fun _ _ _ h => h) (Or.inl ⟨by rfl, ?_⟩) (by assumption) ?_; rotate_left 1; · (intro w _; go_simp; all_goals with_reducible rfl)
              try simp only [Act.put, q3]
              refine wpAnyH_take (i := 21) (oi := ⟨some 31, .load 29 (.tmp 30), 29, "ref.go:89", #[⟨20, .data⟩, ⟨6, .guard⟩], some (6, true)⟩) (v := ?_) rfl (by kernel_rfl) (by kernel_rfl) (by kernel_rfl) (fun _ _ _ h => h) (Or.inl ⟨by rfl, ?_⟩) (by assumption) ?_; rotate_left 1; · (intro w hSw; (try dsimp only at hSw); go_simp; all_goals with_reducible rfl)
              try simp only [Act.put, q3]
              refine wpAnyH_ready (rs := [22]) (by kernel_rfl) (by simp) ?_
              refine AllReadyH.cons (o := ⟨some 32, .call { callee := .value (.func 64), args := #[.tmp 31], argTypes := #[29] }, 9, "ref.go:89", #[⟨21, .data⟩, ⟨6, .chain⟩, ⟨6, .guard⟩], some (6, true)⟩) rfl (fun K hK => ?_) AllReadyH.nil
              go_simp
              go_at_call 64
              refine (sorts_calls A2 c2 s.f2 HS.out.drew HA.out.1 HA.out.2.1 HA.out.2.2.1).mono ?_
              rintro e w2 ⟨rfl, h2⟩
              refine hK.out _ _ ?_ (fun hHeld => ?_)
              · exact HC5.out _ _ h2
              clear hK K
              try simp only [Act.put, q3]
              refine wpAnyH_ready (rs := [23]) (by kernel_rfl) (by simp) ?_
              refine AllReadyH.cons (o := ⟨some 33, .call { callee := .value (.func 63), args := #[.tmp 21, .tmp 26, .tmp 32], argTypes := #[3, 9, 9] }, 4, "ref.go:89", #[⟨11, .data⟩, ⟨16, .data⟩, ⟨22, .data⟩, ⟨22, .chain⟩, ⟨6, .guard⟩], some (6, true)⟩) rfl (fun K hK => ?_) AllReadyH.nil
              go_simp
              go_at_call 63
              refine (right_calls s h2 HA.out.2.2.1 HQ2.out).mono ?_
              rintro e w3 ⟨rfl, h3⟩
              rw [HT.out]
              refine hK.out _ _ ?_ (fun hHeld => ?_)
              · exact HC5.out _ _ h3
              clear hK K
              try simp only [Act.put, q3]
              refine wpAnyH_take (i := 24) (oi := ⟨some 34, .unOp .not 4 (.tmp 33), 4, "ref.go:89", #[⟨23, .data⟩, ⟨6, .guard⟩], some (6, true)⟩) (v := ?_) rfl (by kernel_rfl) (by kernel_rfl) (by kernel_rfl) (fun _ _ _ h => h) (Or.inl ⟨by rfl, ?_⟩) (by assumption) ?_; rotate_left 1; · (intro w _; go_simp; all_goals with_reducible rfl)
              try simp only [Act.put, q3]
              refine wpAnyH_take (i := 25) (oi := ⟨some 35, .pick (.tmp 16) (.tmp 34) (.const (.bool false)), 4, "ref.go:89", #[⟨6, .data⟩, ⟨24, .data⟩], none⟩) (v := ?_) rfl (by kernel_rfl) (by kernel_rfl) (by kernel_rfl) (fun _ _ _ h => h) (Or.inl ⟨by rfl, ?_⟩) (by assumption) ?_; rotate_left 1; · (intro w _; go_simp; all_goals with_reducible rfl)
              try simp only [Act.put, q3]
              refine wpAnyH_take (i := 26) (oi := ⟨some 36, .move (.tmp 35), 4, "ref.go:89", #[⟨25, .data⟩, ⟨23, .chain⟩], none⟩) (v := ?_) rfl (by kernel_rfl) (by kernel_rfl) (by kernel_rfl) (fun _ _ _ h => h) (Or.inl ⟨by rfl, ?_⟩) (by assumption) ?_; rotate_left 1; · (intro w _; go_simp; all_goals with_reducible rfl)
              try simp only [Act.put, q3]
              refine wpAnyH_take (i := 27) (oi := ⟨some 37, .move (.tmp 0), 30, "ref.go:89", #[⟨26, .guard⟩], some (26, false)⟩) (v := ?_) rfl (by kernel_rfl) (by kernel_rfl) (by kernel_rfl) (fun _ _ _ h => h) (Or.inl ⟨by rfl, ?_⟩) (by assumption) ?_; rotate_left 1; · (intro w _; go_simp; all_goals with_reducible rfl)
              try simp only [Act.put, q3]
              refine wpAnyH_take (i := 28) (oi := ⟨some 38, .move (.tmp 3), 3, "ref.go:89", #[⟨26, .guard⟩], some (26, false)⟩) (v := ?_) rfl (by kernel_rfl) (by kernel_rfl) (by kernel_rfl) (fun _ _ _ h => h) (Or.inl ⟨by rfl, ?_⟩) (by assumption) ?_; rotate_left 1; · (intro w _; go_simp; all_goals with_reducible rfl)
              try simp only [Act.put, q3]
              refine wpAnyH_take (i := 29) (oi := ⟨some 39, .indexAddr 30 (.tmp 37) (.tmp 38), 0, "ref.go:89", #[⟨27, .data⟩, ⟨28, .data⟩, ⟨26, .guard⟩], some (26, false)⟩) (v := ?_) rfl (by kernel_rfl) (by kernel_rfl) (by kernel_rfl) (fun _ _ _ h => h) (Or.inl ⟨by rfl, ?_⟩) (by assumption) ?_; rotate_left 1; · (intro w _; go_simp; all_goals with_reducible rfl)
              try simp only [Act.put, q3]
              refine wpAnyH_take (i := 30) (oi := ⟨some 40, .fieldAddr 32 (.tmp 39) 3, 0, "ref.go:89", #[⟨29, .data⟩, ⟨26, .guard⟩], some (26, false)⟩) (v := ?_) rfl (by kernel_rfl) (by kernel_rfl) (by kernel_rfl) (fun _ _ _ h => h) (Or.inl ⟨by rfl, ?_⟩) (by assumption) ?_; rotate_left 1; · (intro w _; go_simp; all_goals with_reducible rfl)
              try simp only [Act.put, q3]
              refine wpAnyH_take (i := 31) (oi := ⟨some 41, .load 30 (.tmp 40), 30, "ref.go:89", #[⟨30, .data⟩, ⟨26, .guard⟩], some (26, false)⟩) (v := ?_) rfl (by kernel_rfl) (by kernel_rfl) (by kernel_rfl) (fun _ _ _ h => h) (Or.inl ⟨by rfl, ?_⟩) (by assumption) ?_; rotate_left 1; · (intro w hSw; (try dsimp only at hSw); go_simp; all_goals with_reducible rfl)
              try simp only [Act.put, q3]
              refine wpAnyH_ready (rs := [32]) (by kernel_rfl) (by simp) ?_
              refine AllReadyH.cons (o := ⟨some 42, .call { callee := .value (.func 37), args := #[.tmp 41], argTypes := #[30] }, 4, "ref.go:89", #[⟨31, .data⟩, ⟨26, .chain⟩, ⟨26, .guard⟩], some (26, false)⟩) rfl (fun K hK => ?_) AllReadyH.nil
              go_simp
              go_at_call 37
              refine (H3.out.1 _ _ A3 c3 h3 HA.out.2.2.2.1 HA.out.2.2.2.2.1 H3.out.2.2.1).mono ?_
              rintro e w4 ⟨rfl, h4⟩
              rw [HF3.out]
              refine hK.out _ _ ?_ (fun hHeld => ?_)
              · exact HC5.out _ _ h4
              clear hK K
              try simp only [Act.put, q3]
              refine wpAnyH_take (i := 33) (oi := ⟨some 43, .unOp .not 4 (.tmp 42), 4, "ref.go:89", #[⟨32, .data⟩, ⟨26, .guard⟩], some (26, false)⟩) (v := ?_) rfl (by kernel_rfl) (by kernel_rfl) (by kernel_rfl) (fun _ _ _ h => h) (Or.inl ⟨by rfl, ?_⟩) (by assumption) ?_; rotate_left 1; · (intro w _; go_simp; all_goals with_reducible rfl)
              try simp only [Act.put, q3]
              refine wpAnyH_take (i := 34) (oi := ⟨some 44, .pick (.tmp 36) (.const (.bool true)) (.tmp 43), 4, "ref.go:89", #[⟨26, .data⟩, ⟨33, .data⟩], none⟩) (v := ?_) rfl (by kernel_rfl) (by kernel_rfl) (by kernel_rfl) (fun _ _ _ h => h) (Or.inl ⟨by rfl, ?_⟩) (by assumption) ?_; rotate_left 1; · (intro w _; go_simp; all_goals with_reducible rfl)
              try simp only [Act.put, q3]
              refine wpAnyH_take (i := 35) (oi := ⟨some 45, .move (.tmp 44), 4, "ref.go:89", #[⟨34, .data⟩, ⟨32, .chain⟩], none⟩) (v := ?_) rfl (by kernel_rfl) (by kernel_rfl) (by kernel_rfl) (fun _ _ _ h => h) (Or.inl ⟨by rfl, ?_⟩) (by assumption) ?_; rotate_left 1; · (intro w _; go_simp; all_goals with_reducible rfl)
              try simp only [Act.put, q3]
              refine wpAnyH_take (i := 36) (oi := ⟨some 46, .move (.tmp 0), 30, "ref.go:89", #[⟨35, .guard⟩], some (35, false)⟩) (v := ?_) rfl (by kernel_rfl) (by kernel_rfl) (by kernel_rfl) (fun _ _ _ h => h) (Or.inl ⟨by rfl, ?_⟩) (by assumption) ?_; rotate_left 1; · (intro w _; go_simp; all_goals with_reducible rfl)
              try simp only [Act.put, q3]
              refine wpAnyH_take (i := 37) (oi := ⟨some 47, .move (.tmp 3), 3, "ref.go:89", #[⟨35, .guard⟩], some (35, false)⟩) (v := ?_) rfl (by kernel_rfl) (by kernel_rfl) (by kernel_rfl) (fun _ _ _ h => h) (Or.inl ⟨by rfl, ?_⟩) (by assumption) ?_; rotate_left 1; · (intro w _; go_simp; all_goals with_reducible rfl)
              try simp only [Act.put, q3]
              refine wpAnyH_take (i := 38) (oi := ⟨some 48, .indexAddr 30 (.tmp 46) (.tmp 47), 0, "ref.go:89", #[⟨36, .data⟩, ⟨37, .data⟩, ⟨35, .guard⟩], some (35, false)⟩) (v := ?_) rfl (by kernel_rfl) (by kernel_rfl) (by kernel_rfl) (fun _ _ _ h => h) (Or.inl ⟨by rfl, ?_⟩) (by assumption) ?_; rotate_left 1; · (intro w _; go_simp; all_goals with_reducible rfl)
              try simp only [Act.put, q3]
              refine wpAnyH_take (i := 39) (oi := ⟨some 49, .fieldAddr 32 (.tmp 48) 4, 0, "ref.go:89", #[⟨38, .data⟩, ⟨35, .guard⟩], some (35, false)⟩) (v := ?_) rfl (by kernel_rfl) (by kernel_rfl) (by kernel_rfl) (fun _ _ _ h => h) (Or.inl ⟨by rfl, ?_⟩) (by assumption) ?_; rotate_left 1; · (intro w _; go_simp; all_goals with_reducible rfl)
              try simp only [Act.put, q3]
              refine wpAnyH_take (i := 40) (oi := ⟨some 50, .load 30 (.tmp 49), 30, "ref.go:89", #[⟨39, .data⟩, ⟨35, .guard⟩], some (35, false)⟩) (v := ?_) rfl (by kernel_rfl) (by kernel_rfl) (by kernel_rfl) (fun _ _ _ h => h) (Or.inl ⟨by rfl, ?_⟩) (by assumption) ?_; rotate_left 1; · (intro w hSw; (try dsimp only at hSw); go_simp; all_goals with_reducible rfl)
              try simp only [Act.put, q3]
              refine wpAnyH_ready (rs := [41]) (by kernel_rfl) (by simp) ?_
              refine AllReadyH.cons (o := ⟨some 51, .call { callee := .value (.func 37), args := #[.tmp 50], argTypes := #[30] }, 4, "ref.go:89", #[⟨40, .data⟩, ⟨35, .chain⟩, ⟨35, .guard⟩], some (35, false)⟩) rfl (fun K hK => ?_) AllReadyH.nil
              go_simp
              go_at_call 37
              refine (H3.out.2.1 _ _ A4 c4 h4 HA.out.2.2.2.2.2.1 HA.out.2.2.2.2.2.2 H3.out.2.2.2).mono ?_
              rintro e w5 ⟨rfl, h5⟩
              rw [HF4.out]
              refine hK.out _ _ ?_ (fun hHeld => ?_)
              · exact HC5.out _ _ h5
              clear hK K
              try simp only [Act.put, q3]
              refine wpAnyH_take (i := 42) (oi := ⟨some 52, .unOp .not 4 (.tmp 51), 4, "ref.go:89", #[⟨41, .data⟩, ⟨35, .guard⟩], some (35, false)⟩) (v := ?_) rfl (by kernel_rfl) (by kernel_rfl) (by kernel_rfl) (fun _ _ _ h => h) (Or.inl ⟨by rfl, ?_⟩) (by assumption) ?_; rotate_left 1; · (intro w _; go_simp; all_goals with_reducible rfl)
              try simp only [Act.put, q3]
              refine wpAnyH_take (i := 43) (oi := ⟨some 53, .pick (.tmp 45) (.const (.bool true)) (.tmp 52), 4, "ref.go:89", #[⟨35, .data⟩, ⟨42, .data⟩], none⟩) (v := ?_) rfl (by kernel_rfl) (by kernel_rfl) (by kernel_rfl) (fun _ _ _ h => h) (Or.inl ⟨by rfl, ?_⟩) (by assumption) ?_; rotate_left 1; · (intro w _; go_simp; all_goals with_reducible rfl)
              try simp only [Act.put, q3]
              refine wpAnyH_done (by kernel_rfl) ?_ _
              have HL := Lib.hid h5
              clear d0 d1 d2 d3 d4
              go_wp2
              exact ⟨⟨x + 1, by omega, by omega, by go_num, HL, HV⟩, by simp only [intOf]; omega⟩
    · have hx : x = l.length := by omega
      have hlt' : (x < (l.length : Int)) = False := eq_false hlt
      have HV : Hid (allB typedB l = true) := Lib.hid (by rw [← HN.out, List.drop_of_length_le (by omega), allB])
      go_wp2
      go_ret
      exact ⟨by rw [HV.out]; rfl, HS.out⟩
theorem types_calls (n : Nat) : ∀ l : List Stmt, SizeOf.sizeOf l < n → ∀ (W : World) (Q : HP) (A : Option Addr) (c : Nat), S w0 W Q → CS w0 A l → l.length ≤ M → (∀ x ∈ l, ∀ d, okS d x) → Calls Try.prog 37 #[.slice A l.length c] W fun e w' => e = .returned (.bool (allB typedB l)) ∧ S w0 w' Q := by
  induction n with
  | zero => intro l h; omega
  | succ n ih =>
    intro l hl W Q A c h hC hm ho
    exact types_step l hm ho (fun l' h1 => ih l' (by omega)) A c h hC
end Go.Proofs.Ytbjddomocggjmaa.Fc
