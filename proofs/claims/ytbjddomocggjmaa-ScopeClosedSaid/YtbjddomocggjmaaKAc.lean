/- fewCon, fewDefs of the reference of layer 8: they come to an end. -/
import Derived.Test.YtbjddomocggjmaaKAb
namespace Go.Proofs.Ytbjddomocggjmaa.Sc
open Go.RowKit Go.ChangeShapes Go.WideShapes Go.Proofs.Ytbjddomocggjmaa.Sep
open Go.Proofs.YtbjddomocggjmaaW.PrintWords
variable {B : Nat} {w0 w : World} {R : HP}
def FewCAt (w0 : World) (n : Nat) : Prop := ∀ c : Con, SizeOf.sizeOf c < n → ∀ (W : World) (Q : HP) (cs : List Value) (left : Int), S w0 W Q → kCon.K w0 c cs → Calls Try.prog 89 #[.agg cs.toArray, .int .i64 left] W fun e w' => ∃ r, e = .returned (.int .i64 r) ∧ S w0 w' Q
theorem con_small {c x : Con} (h : x ∈ c.f5) : SizeOf.sizeOf x < SizeOf.sizeOf c := by
  cases c
  have := List.sizeOf_lt_of_mem h
  simp only [PScopeTwice.S50.mk.sizeOf_spec]
  dsimp only at this
  omega
theorem val_small {v : Val} {l : List Val} (h : v ∈ l) : SizeOf.sizeOf v.f4 < SizeOf.sizeOf l := by
  have h1 := List.sizeOf_lt_of_mem h
  cases v
  simp only [PScopeTwice.S147.mk.sizeOf_spec] at h1
  dsimp only
  omega
set_option maxHeartbeats 16000000 in
set_option maxRecDepth 100000 in
theorem fewc_at (n : Nat) : FewCAt w0 n := by
  induction n with
  | zero => intro c h; omega
  | succ n ih =>
    intro c hc W Q cs left h hK
    obtain ⟨A5, c5, rfl, l5, g5⟩ := PScopeTwice.k50_open hK
    have hl : c.f5.length ≤ 9223372036854775807 := g5.2.1
    have HI := Lib.hid (And.intro ih (And.intro hc g5))
    show Calls Try.prog 89 #[.agg #[.int .i64 c.f0, .int .i64 c.f1, .int .i64 c.f2, .bool c.f3, .bool c.f4, .slice A5 c.f5.length c5], .int .i64 left] W _
    generalize hg : W.heap.size = g
    have H := Lib.hid (alloc_at (n := g) h (.cells #[.int .i64 c.f0, .int .i64 c.f1, .int .i64 c.f2, .bool c.f3, .bool c.f4, .slice A5 c.f5.length c5] 50) hg.symm)
    clear h hK l5 g5 ih hc
    go_enter Try.func89, Try.ntmps89
    go_wp2
    go_loopw [1, 5] (fun v1 v5 wr => ∃ a x : Int, 0 ≤ x ∧ x ≤ c.f5.length ∧ v1 = .int .i64 a ∧ v5 = .int .i64 x ∧ Hid (S w0 wr (Blk g (.cells #[.int .i64 c.f0, .int .i64 c.f1, .int .i64 c.f2, .bool c.f3, .bool c.f4, .slice A5 c.f5.length c5] 50) • Q))) (fun _ v _ => c.f5.length - (intOf v).toNat)
    case atStart => exact ⟨_, 0, Int.le_refl _, by omega, rfl, rfl, H⟩
    case round =>
      clear H
      obtain ⟨a, x, hx0, hx1, rfl, rfl, HR⟩ := hrel
      have e5 := HR.out.cell 5 rfl
      by_cases hlt : x < c.f5.length
      · have q126 : (x < (c.f5.length : Int)) = True := eq_true hlt
        by_cases ha : 0 ≤ a
        · have p2 : decide (0 ≤ a) = true := decide_eq_true ha
          have p3 : (0 ≤ a) = True := eq_true ha
          obtain ⟨ad, cs, eA, hcl0, hKx, hcell0⟩ := Kd.C_get HI.out.2.2 zCon x hx0 hlt
          cases eA
          have hcell : ∀ (j : Nat) (u : Value), cs[j]? = some u → w0.cell? (ad.add (x.toNat * 6 + j)) = some u := hcell0
          have HG := Lib.hid (getD_mem c.f5 zCon x hx0 hlt)
          generalize c.f5.getD x.toNat zCon = r at *
          have HK := Lib.hid (And.intro hKx (And.intro hcell (show cs.length = 6 from hcl0)))
          have hr := con_small (List.mem_of_getElem? HG.out)
          have HZ : Hid (SizeOf.sizeOf r < n) := Lib.hid (by have := HI.out.2.1; omega)
          have p126 := eq_true hx0
          clear hcell hcell0 hcl0 hKx hr
          go_wp2_with (refine held_load 50 _ rfl ?_)
          refine ⟨?_⟩
          refine wpList_load_cells rfl 50 _ rfl _ rfl cs (elem_cells HR.out.below HK.out.2.1) _ Try.underlying50 rfl (by rw [HK.out.2.2]; kernel_rfl) ?_
          go_wp2_with fail
          refine (HI.out.1 r HZ.out _ _ cs a HR.out HK.out.1).mono ?_
          rintro e w3 ⟨b, rfl, h3⟩
          have H3 := Lib.hid h3
          clear h3 e5
          go_wp2
          exact ⟨⟨b, x + 1, by omega, by omega, rfl, by go_num, H3⟩, by simp only [intOf]; omega⟩
        · have p2 : decide (0 ≤ a) = false := decide_eq_false ha
          have p3 : (0 ≤ a) = False := eq_false ha
          go_wp2
          go_ret
          exact ⟨⟨_, rfl⟩, HR.out.drop⟩
      · have hlt' : (x < (c.f5.length : Int)) = False := eq_false hlt
        go_wp2
        go_ret
        exact ⟨⟨_, rfl⟩, HR.out.drop⟩
def FewDAt (w0 : World) (n : Nat) : Prop := ∀ l : List Val, SizeOf.sizeOf l < n → ∀ (W : World) (Q : HP) (A : Option Addr) (p : Nat) (left : Int), S w0 W Q → kVal.C w0 A l.length l → Calls Try.prog 90 #[.slice A l.length p, .int .i64 left] W fun e w' => ∃ r, e = .returned (.int .i64 r) ∧ S w0 w' Q
set_option maxHeartbeats 16000000 in
set_option maxRecDepth 100000 in
theorem fewd_at (n : Nat) : FewDAt w0 n := by
  induction n with
  | zero => intro c h; omega
  | succ n ih =>
    intro l hc W Q A p left h hC0
    have hl : l.length ≤ 9223372036854775807 := hC0.2.1
    have HI := Lib.hid ih
    have HA := Lib.hid (And.intro hC0 hc)
    have H := Lib.hid h
    clear h hC0 ih hc
    go_enter Try.func90, Try.ntmps90
    go_wp2
    go_loopw [1, 5] (fun v1 v5 wr => ∃ a x : Int, 0 ≤ x ∧ x ≤ l.length ∧ v1 = .int .i64 a ∧ v5 = .int .i64 x ∧ Hid (S w0 wr Q)) (fun _ v _ => l.length - (intOf v).toNat)
    case atStart => exact ⟨_, 0, Int.le_refl _, by omega, rfl, rfl, H⟩
    case round =>
      clear H
      obtain ⟨a, x, hx0, hx1, rfl, rfl, HR⟩ := hrel
      by_cases hlt : x < l.length
      · have q126 : (x < (l.length : Int)) = True := eq_true hlt
        by_cases ha : 0 ≤ a
        · have p2 : decide (0 ≤ a) = true := decide_eq_true ha
          have p3 : (0 ≤ a) = True := eq_true ha
          obtain ⟨ad, cs, eA, hcl0, hKx, hcell0⟩ := Kd.C_get HA.out.1 zVal x hx0 hlt
          cases eA
          have hcell : ∀ (j : Nat) (u : Value), cs[j]? = some u → w0.cell? (ad.add (x.toNat * 5 + j)) = some u := hcell0
          have HG := Lib.hid (getD_mem l zVal x hx0 hlt)
          generalize l.getD x.toNat zVal = r at *
          obtain ⟨B3, e3, B4, e4, rfl, l3, g3, l4, g4⟩ := PScopeTwice.k147_open hKx
          have HC := Lib.hid g4
          have HF : Hid (∀ W, Below w0.heap.size w0 W → ∀ (j : Nat), 0 < j → ∀ u, ([.int .i64 r.f0, .int .i64 r.f1, .string r.f2, .slice B3 r.f3.length e3, .slice B4 r.f4.length e4] : List Value)[j]? = some u → W.cell? ⟨(ad.add (x.toNat * 5)).block, (ad.add (x.toNat * 5)).off + j, none⟩ = some u) := Lib.hid fun W hW j hj u hu => by
            have := pw_cell_below hW (hcell j u hu)
            rwa [add_field ad _ _ hj] at this
          have hr := val_small (List.mem_of_getElem? HG.out)
          have HZ : Hid (SizeOf.sizeOf r.f4 < n) := Lib.hid (by have := HA.out.2; omega)
          have p126 := eq_true hx0
          clear hcell hcell0 hcl0 hKx hr l3 g3 l4 g4
          go_wp2_with fail
          refine wp_region_held_drew (S := (fun w' => w'.cell? ⟨(ad.add (x.toNat * 5)).block, (ad.add (x.toNat * 5)).off + 3, none⟩ = some (.slice B3 r.f3.length e3) ∧ w'.cell? ⟨(ad.add (x.toNat * 5)).block, (ad.add (x.toNat * 5)).off + 4, none⟩ = some (.slice B4 r.f4.length e4))) (by kernel_rfl) ?_ (fun hHeld => ?_)
          · exact ⟨HF.out _ (HR.out.drew).below 3 (by decide) _ rfl, HF.out _ (HR.out.drew).below 4 (by decide) _ rfl⟩
          refine wpAnyH_take (i := 0) (oi := ⟨some 16, .move (.tmp 0), 94, "ref.go:467", #[], none⟩) (v := ?_) rfl (by kernel_rfl) (by kernel_rfl) (by kernel_rfl) (fun _ _ _ h => h) (Or.inl ⟨by rfl, ?_⟩) (by assumption) ?_
          rotate_left 1
          · intro w hSw
            try dsimp only at hSw
            go_simp
            all_goals with_reducible rfl
          try simp only [Act.put, q3]
          refine wpAnyH_take (i := 1) (oi := ⟨some 17, .move (.tmp 5), 3, "ref.go:467", #[], none⟩) (v := ?_) rfl (by kernel_rfl) (by kernel_rfl) (by kernel_rfl) (fun _ _ _ h => h) (Or.inl ⟨by rfl, ?_⟩) (by assumption) ?_
          rotate_left 1
          · intro w hSw
            try dsimp only at hSw
            go_simp
            all_goals with_reducible rfl
          try simp only [Act.put, q3]
          refine wpAnyH_take (i := 2) (oi := ⟨some 18, .indexAddr 94 (.tmp 16) (.tmp 17), 0, "ref.go:467", #[⟨0, .data⟩, ⟨1, .data⟩], none⟩) (v := ?_) rfl (by kernel_rfl) (by kernel_rfl) (by kernel_rfl) (fun _ _ _ h => h) (Or.inl ⟨by rfl, ?_⟩) (by assumption) ?_
          rotate_left 1
          · intro w hSw
            try dsimp only at hSw
            go_simp
            all_goals with_reducible rfl
          try simp only [Act.put, q3]
          refine wpAnyH_take (i := 3) (oi := ⟨some 19, .fieldAddr 147 (.tmp 18) 4, 0, "ref.go:467", #[⟨2, .data⟩], none⟩) (v := ?_) rfl (by kernel_rfl) (by kernel_rfl) (by kernel_rfl) (fun _ _ _ h => h) (Or.inl ⟨by rfl, ?_⟩) (by assumption) ?_
          rotate_left 1
          · intro w hSw
            try dsimp only at hSw
            go_simp
            all_goals with_reducible rfl
          try simp only [Act.put, q3]
          refine wpAnyH_take (i := 4) (oi := ⟨some 20, .load 94 (.tmp 19), 94, "ref.go:467", #[⟨3, .data⟩], none⟩) (v := ?_) rfl (by kernel_rfl) (by kernel_rfl) (by kernel_rfl) (fun _ _ _ h => h) (Or.inl ⟨by rfl, ?_⟩) (by assumption) ?_
          rotate_left 1
          · intro w hSw
            try dsimp only at hSw
            go_simp
            all_goals with_reducible rfl
          try simp only [Act.put, q3]
          refine wpAnyH_take (i := 5) (oi := ⟨some 21, .move (.tmp 1), 3, "ref.go:467", #[], none⟩) (v := ?_) rfl (by kernel_rfl) (by kernel_rfl) (by kernel_rfl) (fun _ _ _ h => h) (Or.inl ⟨by rfl, ?_⟩) (by assumption) ?_
          rotate_left 1
          · intro w hSw
            try dsimp only at hSw
            go_simp
            all_goals with_reducible rfl
          try simp only [Act.put, q3]
          refine wpAnyH_take (i := 6) (oi := ⟨some 22, .binOp .sub 3 (.tmp 21) (.const (.int .i64 1)) 3, 3, "ref.go:467", #[⟨5, .data⟩], none⟩) (v := ?_) rfl (by kernel_rfl) (by kernel_rfl) (by kernel_rfl) (fun _ _ _ h => h) (Or.inl ⟨by rfl, ?_⟩) (by assumption) ?_
          rotate_left 1
          · intro w hSw
            try dsimp only at hSw
            go_simp
            all_goals with_reducible rfl
          try simp only [Act.put, q3]
          refine wpAnyH_take (i := 7) (oi := ⟨some 23, .move (.tmp 0), 94, "ref.go:467", #[], none⟩) (v := ?_) rfl (by kernel_rfl) (by kernel_rfl) (by kernel_rfl) (fun _ _ _ h => h) (Or.inl ⟨by rfl, ?_⟩) (by assumption) ?_
          rotate_left 1
          · intro w hSw
            try dsimp only at hSw
            go_simp
            all_goals with_reducible rfl
          try simp only [Act.put, q3]
          refine wpAnyH_take (i := 8) (oi := ⟨some 24, .move (.tmp 5), 3, "ref.go:467", #[], none⟩) (v := ?_) rfl (by kernel_rfl) (by kernel_rfl) (by kernel_rfl) (fun _ _ _ h => h) (Or.inl ⟨by rfl, ?_⟩) (by assumption) ?_
          rotate_left 1
          · intro w hSw
            try dsimp only at hSw
            go_simp
            all_goals with_reducible rfl
          try simp only [Act.put, q3]
          refine wpAnyH_take (i := 9) (oi := ⟨some 25, .indexAddr 94 (.tmp 23) (.tmp 24), 0, "ref.go:467", #[⟨7, .data⟩, ⟨8, .data⟩], none⟩) (v := ?_) rfl (by kernel_rfl) (by kernel_rfl) (by kernel_rfl) (fun _ _ _ h => h) (Or.inl ⟨by rfl, ?_⟩) (by assumption) ?_
          rotate_left 1
          · intro w hSw
            try dsimp only at hSw
            go_simp
            all_goals with_reducible rfl
          try simp only [Act.put, q3]
          refine wpAnyH_take (i := 10) (oi := ⟨some 26, .fieldAddr 147 (.tmp 25) 3, 0, "ref.go:467", #[⟨9, .data⟩], none⟩) (v := ?_) rfl (by kernel_rfl) (by kernel_rfl) (by kernel_rfl) (fun _ _ _ h => h) (Or.inl ⟨by rfl, ?_⟩) (by assumption) ?_
          rotate_left 1
          · intro w hSw
            try dsimp only at hSw
            go_simp
            all_goals with_reducible rfl
          try simp only [Act.put, q3]
          refine wpAnyH_take (i := 11) (oi := ⟨some 27, .load 51 (.tmp 26), 51, "ref.go:467", #[⟨10, .data⟩], none⟩) (v := ?_) rfl (by kernel_rfl) (by kernel_rfl) (by kernel_rfl) (fun _ _ _ h => h) (Or.inl ⟨by rfl, ?_⟩) (by assumption) ?_
          rotate_left 1
          · intro w hSw
            try dsimp only at hSw
            go_simp
            all_goals with_reducible rfl
          try simp only [Act.put, q3]
          refine wpAnyH_take (i := 12) (oi := ⟨some 28, .call { callee := .builtin .len, args := #[.tmp 27], argTypes := #[51] }, 3, "ref.go:467", #[⟨11, .data⟩], none⟩) (v := ?_) rfl (by kernel_rfl) (by kernel_rfl) (by kernel_rfl) (fun _ _ _ h => h) (Or.inl ⟨by rfl, ?_⟩) (by assumption) ?_
          rotate_left 1
          · intro w hSw
            try dsimp only at hSw
            go_simp
            all_goals with_reducible rfl
          try simp only [Act.put, q3]
          refine wpAnyH_take (i := 13) (oi := ⟨some 29, .binOp .sub 3 (.tmp 22) (.tmp 28) 3, 3, "ref.go:467", #[⟨6, .data⟩, ⟨12, .data⟩], none⟩) (v := ?_) rfl (by kernel_rfl) (by kernel_rfl) (by kernel_rfl) (fun _ _ _ h => h) (Or.inl ⟨by rfl, ?_⟩) (by assumption) ?_
          rotate_left 1
          · intro w hSw
            try dsimp only at hSw
            go_simp
            all_goals with_reducible rfl
          try simp only [Act.put, q3]
          refine wpAnyH_ready (rs := [14]) (by kernel_rfl) (by simp) ?_
          refine AllReadyH.cons (o := ⟨some 30, .call { callee := .value (.func 90), args := #[.tmp 20, .tmp 29], argTypes := #[94, 3] }, 3, "ref.go:467", #[⟨4, .data⟩, ⟨13, .data⟩], none⟩) rfl (fun K hK => ?_) AllReadyH.nil
          go_simp
          refine (HI.out r.f4 HZ.out _ _ _ _ _ HR.out.drew HC.out).mono ?_
          rintro e w3 ⟨b, rfl, h3⟩
          refine hK.out _ _ ?_ (fun hHeld => ?_)
          · exact ⟨HF.out _ (h3).below 3 (by decide) _ rfl, HF.out _ (h3).below 4 (by decide) _ rfl⟩
          clear hK K
          try simp only [Act.put, q3]
          refine wpAnyH_take (i := 15) (oi := ⟨some 1, .assign (.tmp 30), 3, "ref.go:467", #[⟨14, .data⟩, ⟨14, .chain⟩, ⟨0, .phase⟩, ⟨1, .phase⟩, ⟨2, .phase⟩, ⟨3, .phase⟩, ⟨4, .phase⟩, ⟨5, .phase⟩, ⟨6, .phase⟩, ⟨7, .phase⟩, ⟨8, .phase⟩, ⟨9, .phase⟩, ⟨10, .phase⟩, ⟨11, .phase⟩, ⟨12, .phase⟩, ⟨13, .phase⟩, ⟨14, .phase⟩], none⟩) (v := ?_) rfl (by kernel_rfl) (by kernel_rfl) (by kernel_rfl) (fun _ _ _ h => h) (Or.inl ⟨by rfl, ?_⟩) (by assumption) ?_
          rotate_left 1
          · intro w hSw
            try dsimp only at hSw
            go_simp
            all_goals with_reducible rfl
          try simp only [Act.put, q3]
          refine wpAnyH_done (by kernel_rfl) ?_ _
          have H3 := Lib.hid h3
          clear h3 hHeld
          go_wp2
          exact ⟨⟨b, x + 1, by omega, by omega, rfl, by go_num, H3⟩, by simp only [intOf]; omega⟩
        · have p2 : decide (0 ≤ a) = false := decide_eq_false ha
          have p3 : (0 ≤ a) = False := eq_false ha
          go_wp2
          go_ret
          exact ⟨⟨_, rfl⟩, HR.out⟩
      · have hlt' : (x < (l.length : Int)) = False := eq_false hlt
        go_wp2
        go_ret
        exact ⟨⟨_, rfl⟩, HR.out⟩
end Go.Proofs.Ytbjddomocggjmaa.Sc
