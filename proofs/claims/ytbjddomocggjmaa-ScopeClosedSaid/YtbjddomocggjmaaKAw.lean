/- Same of the reference of layer 8, of equal values: walked. -/
import Derived.Deep.Cut
import Derived.Test.YtbjddomocggjmaaKAd
import Derived.Test.YtbjddomocggjmaaKAs
import Derived.Test.YtbjddomocggjmaaKAv
namespace Go.Proofs.Ytbjddomocggjmaa.Sc
open Go.RowKit Go.ChangeShapes Go.WideShapes Go.Proofs.Ytbjddomocggjmaa.Sep
open Go.Proofs.YtbjddomocggjmaaW.PrintWords
variable {B : Nat} {w0 w : World} {R : HP}
set_option maxHeartbeats 16000000 in
set_option maxRecDepth 100000 in
theorem sty_at (n : Nat) : STyAt w0 n := by
  induction n with
  | zero => intro c hc; omega
  | succ n ih =>
    intro t hc w R cs cs' h hK hK'
    obtain ⟨A7, c7, A10, c10, A11, c11, A12, c12, A13, c13, A14, c14, e1, -, g7, -, g10, -, g11, -, g12, -, g13, -, g14⟩ := kTy_open hK
    obtain ⟨B7, p7, B10, p10, B11, p11, B12, p12, B13, p13, B14, p14, e2, -, k7, -, k10, -, k11, -, k12, -, k13, -, k14⟩ := kTy_open hK'
    generalize hg : w.heap.size = g
    have H := Lib.hid (alloc_at (n := g + 1) (alloc_at (n := g) h (.cells cs.toArray 55) hg.symm) (.cells cs'.toArray 55) (by simp [hg]))
    have HC : Hid (cs = [.int .i64 t.k, .string t.n, .int .i64 t.c.f0, .int .i64 t.c.f1, .int .i64 t.c.f2, .bool t.c.f3, .bool t.c.f4, .slice A7 t.c.f5.length c7, .bool t.e, .string t.fr, .slice A10 t.ns.length c10, .slice A11 t.mo.length c11, .slice A12 t.ps.length c12, .slice A13 t.ad.length c13, .slice A14 t.el.length c14] ∧ cs' = [.int .i64 t.k, .string t.n, .int .i64 t.c.f0, .int .i64 t.c.f1, .int .i64 t.c.f2, .bool t.c.f3, .bool t.c.f4, .slice B7 t.c.f5.length p7, .bool t.e, .string t.fr, .slice B10 t.ns.length p10, .slice B11 t.mo.length p11, .slice B12 t.ps.length p12, .slice B13 t.ad.length p13, .slice B14 t.el.length p14]) := Lib.hid ⟨e1, e2⟩
    have HG := Lib.hid (And.intro (And.intro g7 k7) (And.intro (And.intro g10 k10) (And.intro (And.intro g11 k11) (And.intro (And.intro g12 k12) (And.intro (And.intro g13 k13) (And.intro g14 k14))))))
    have HI := Lib.hid (And.intro ih (show SizeOf.sizeOf t < n + 1 from hc))
    have hl : t.el.length ≤ 9223372036854775807 := g14.2.1
    have y0 : (t.n.toList != t.n.toList) = false := bne_self_eq_false _
    have y1 : (t.fr.toList != t.fr.toList) = false := bne_self_eq_false _
    have y2 : (t.e != t.e) = false := bne_self_eq_false _
    have y3 : (t.k != t.k) = false := bne_self_eq_false _
    obtain ⟨b0, b1, b2, b3, b4, b5, b6, b7, b8, b9, b10, b11, b12, b13, b14⟩ := ty_cellsC HC.out.1 H.out.two
    obtain ⟨d0, d1, d2, d3, d4, d5, d6, d7, d8, d9, d10, d11, d12, d13, d14⟩ := ty_cellsC HC.out.2 H.out
    clear h hK hK' e1 e2 g7 g10 g11 g12 g13 g14 k7 k10 k11 k12 k13 k14 ih hc
    go_enter Try.func51, Try.ntmps51
    go_upto_region 1 with fail
    simp only [List.append_eq, List.cons_append, List.nil_append]
    go_wp2_with fail
    refine (scon_at _ t.c (Nat.lt_succ_self _) _ _ A7 c7 B7 p7 H.out HG.out.1.1 HG.out.1.2).mono ?_
    rintro e w1 ⟨rfl, h1⟩
    have H1 := Lib.hid h1
    clear h1 H d0 d1 d2 d3 d4 d5 d6 d7 d8 d9 d10 d11 d12 d13 d14 b0 b1 b2 b3 b4 b5 b6 b7 b8 b9 b10 b11 b12 b13 b14
    obtain ⟨b0, b1, b2, b3, b4, b5, b6, b7, b8, b9, b10, b11, b12, b13, b14⟩ := ty_cellsC HC.out.1 H1.out.two
    obtain ⟨d0, d1, d2, d3, d4, d5, d6, d7, d8, d9, d10, d11, d12, d13, d14⟩ := ty_cellsC HC.out.2 H1.out
    go_wp2_with fail
    refine (stexts_calls A10 c10 B10 p10 t.ns H1.out HG.out.2.1.1 HG.out.2.1.2).mono ?_
    rintro e w2 ⟨rfl, h2⟩
    have H2 := Lib.hid h2
    clear h2 H1 d0 d1 d2 d3 d4 d5 d6 d7 d8 d9 d10 d11 d12 d13 d14 b0 b1 b2 b3 b4 b5 b6 b7 b8 b9 b10 b11 b12 b13 b14
    obtain ⟨b0, b1, b2, b3, b4, b5, b6, b7, b8, b9, b10, b11, b12, b13, b14⟩ := ty_cellsC HC.out.1 H2.out.two
    obtain ⟨d0, d1, d2, d3, d4, d5, d6, d7, d8, d9, d10, d11, d12, d13, d14⟩ := ty_cellsC HC.out.2 H2.out
    go_wp2_with fail
    refine (stexts_calls A11 c11 B11 p11 t.mo H2.out HG.out.2.2.1.1 HG.out.2.2.1.2).mono ?_
    rintro e w3 ⟨rfl, h3⟩
    have H3 := Lib.hid h3
    clear h3 H2 d0 d1 d2 d3 d4 d5 d6 d7 d8 d9 d10 d11 d12 d13 d14 b0 b1 b2 b3 b4 b5 b6 b7 b8 b9 b10 b11 b12 b13 b14
    obtain ⟨b0, b1, b2, b3, b4, b5, b6, b7, b8, b9, b10, b11, b12, b13, b14⟩ := ty_cellsC HC.out.1 H3.out.two
    obtain ⟨d0, d1, d2, d3, d4, d5, d6, d7, d8, d9, d10, d11, d12, d13, d14⟩ := ty_cellsC HC.out.2 H3.out
    go_wp2_with fail
    refine (sparts_calls n HI.out.1 A12 c12 B12 p12 t.ps (fun p hp => by have := ps_small hp; have := HI.out.2; omega) H3.out HG.out.2.2.2.1.1 HG.out.2.2.2.1.2).mono ?_
    rintro e w4 ⟨rfl, h4⟩
    have H4 := Lib.hid h4
    clear h4 H3 d0 d1 d2 d3 d4 d5 d6 d7 d8 d9 d10 d11 d12 d13 d14 b0 b1 b2 b3 b4 b5 b6 b7 b8 b9 b10 b11 b12 b13 b14
    obtain ⟨b0, b1, b2, b3, b4, b5, b6, b7, b8, b9, b10, b11, b12, b13, b14⟩ := ty_cellsC HC.out.1 H4.out.two
    obtain ⟨d0, d1, d2, d3, d4, d5, d6, d7, d8, d9, d10, d11, d12, d13, d14⟩ := ty_cellsC HC.out.2 H4.out
    go_wp2_with fail
    refine (sparts_calls n HI.out.1 A13 c13 B13 p13 t.ad (fun p hp => by have := ad_small hp; have := HI.out.2; omega) H4.out HG.out.2.2.2.2.1.1 HG.out.2.2.2.2.1.2).mono ?_
    rintro e w5 ⟨rfl, h5⟩
    have H5 := Lib.hid h5
    clear h5 H4 d0 d1 d2 d3 d4 d5 d6 d7 d8 d9 d10 d11 d12 d13 d14 b0 b1 b2 b3 b4 b5 b6 b7 b8 b9 b10 b11 b12 b13 b14
    obtain ⟨b0, b1, b2, b3, b4, b5, b6, b7, b8, b9, b10, b11, b12, b13, b14⟩ := ty_cellsC HC.out.1 H5.out.two
    obtain ⟨d0, d1, d2, d3, d4, d5, d6, d7, d8, d9, d10, d11, d12, d13, d14⟩ := ty_cellsC HC.out.2 H5.out
    go_wp2
    clear d0 d1 d2 d3 d4 d5 d6 d7 d8 d9 d10 d11 d12 d13 d14 b0 b1 b2 b3 b4 b5 b6 b7 b8 b9 b10 b11 b12 b13 b14 y0 y1 y2 y3
    go_loopw [5] (fun v wr => ∃ x : Int, 0 ≤ x ∧ x ≤ t.el.length ∧ v = .int .i64 x ∧ Hid (S w0 wr (Blk (g + 1) (.cells cs'.toArray 55) • (Blk g (.cells cs.toArray 55) • R)))) (fun v _ => t.el.length - (intOf v).toNat)
    case atStart => exact ⟨0, Int.le_refl _, by omega, rfl, H5⟩
    case round =>
      clear H5
      obtain ⟨x, hx0, hx1, rfl, HR⟩ := hrel
      obtain ⟨b0, b1, b2, b3, b4, b5, b6, b7, b8, b9, b10, b11, b12, b13, b14⟩ := ty_cellsC HC.out.1 HR.out.two
      clear b0 b1 b2 b3 b4 b5 b6 b7 b8 b9 b10 b11 b12 b13
      by_cases hlt : x < t.el.length
      · obtain ⟨ad, ts, eA, hcl0, hX, hcell0⟩ := Kd.C_get HG.out.2.2.2.2.2.1 zTy x hx0 hlt
        obtain ⟨ad', ts', eA', hcl0', hX', hcell0'⟩ := Kd.C_get HG.out.2.2.2.2.2.2 zTy x hx0 hlt
        cases eA
        cases eA'
        have HM := Lib.hid (List.mem_of_getElem? (getD_mem t.el zTy x hx0 hlt))
        generalize t.el.getD x.toNat zTy = r at *
        have HX := Lib.hid (And.intro hX hX')
        have HL : Hid (ts.length = 15 ∧ ts'.length = 15) := Lib.hid ⟨hcl0, hcl0'⟩
        have HF : Hid (∀ W, Below w0.heap.size w0 W → Hid ((∀ (j : Nat) (v : Value), ts[j]? = some v → W.cell? ((ad.add (x.toNat * 15)).add j) = some v) ∧ ∀ (j : Nat) (v : Value), ts'[j]? = some v → W.cell? ((ad'.add (x.toNat * 15)).add j) = some v)) := Lib.hid fun W hW => Lib.hid ⟨elem_cells hW hcell0, elem_cells hW hcell0'⟩
        have HZ : Hid (SizeOf.sizeOf r < n) := Lib.hid (by have := el_small HM.out; have := HI.out.2; omega)
        have p126 := eq_true hx0
        have q126 : (x < (t.el.length : Int)) = True := eq_true hlt
        clear hcell0 hcl0 hX hcell0' hcl0' hX'
        go_wp2
        clear b14
        refine wp_region_held_drew (S := fun W => (W.cell? ⟨g, 14, none⟩ = some (.slice (some ad) t.el.length c14) ∧ W.cell? ⟨g + 1, 14, none⟩ = some (.slice (some ad') t.el.length p14)) ∧ Hid ((∀ (j : Nat) (v : Value), ts[j]? = some v → W.cell? ((ad.add (x.toNat * 15)).add j) = some v) ∧ ∀ (j : Nat) (v : Value), ts'[j]? = some v → W.cell? ((ad'.add (x.toNat * 15)).add j) = some v)) (by kernel_rfl) ?_ (fun hHeld => ?_)
        · exact ⟨⟨(ty_cellsC HC.out.1 HR.out.drew.two).2.2.2.2.2.2.2.2.2.2.2.2.2.2, (ty_cellsC HC.out.2 HR.out.drew).2.2.2.2.2.2.2.2.2.2.2.2.2.2⟩, HF.out _ HR.out.drew.below⟩
        refine wpAnyH_take (i := 0) (oi := ⟨some 88, .fieldAddr 55 (.tmp 2) 9, 0, "ref.go:443", #[], none⟩) (v := ?_) rfl (by kernel_rfl) (by kernel_rfl) (by kernel_rfl) (fun _ _ _ h => h) (Or.inl ⟨by rfl, ?_⟩) (by assumption) ?_
        rotate_left 1
        · intro w hSw
          try dsimp only at hSw
          go_simp
          all_goals with_reducible rfl
        try simp only [Act.put, List.setIfInBounds_toArray, List.set_cons_succ, List.set_cons_zero]
        refine wpAnyH_take (i := 1) (oi := ⟨some 89, .load 53 (.tmp 88), 53, "ref.go:443", #[⟨0, .data⟩], none⟩) (v := ?_) rfl (by kernel_rfl) (by kernel_rfl) (by kernel_rfl) (fun _ _ _ h => h) (Or.inl ⟨by rfl, ?_⟩) (by assumption) ?_
        rotate_left 1
        · intro w hSw
          try dsimp only at hSw
          go_simp
          all_goals with_reducible rfl
        try simp only [Act.put, List.setIfInBounds_toArray, List.set_cons_succ, List.set_cons_zero]
        refine wpAnyH_take (i := 2) (oi := ⟨some 90, .move (.tmp 5), 3, "ref.go:443", #[], none⟩) (v := ?_) rfl (by kernel_rfl) (by kernel_rfl) (by kernel_rfl) (fun _ _ _ h => h) (Or.inl ⟨by rfl, ?_⟩) (by assumption) ?_
        rotate_left 1
        · intro w hSw
          try dsimp only at hSw
          go_simp
          all_goals with_reducible rfl
        try simp only [Act.put, List.setIfInBounds_toArray, List.set_cons_succ, List.set_cons_zero]
        refine wpAnyH_take (i := 3) (oi := ⟨some 91, .indexAddr 53 (.tmp 89) (.tmp 90), 0, "ref.go:443", #[⟨1, .data⟩, ⟨2, .data⟩], none⟩) (v := ?_) rfl (by kernel_rfl) (by kernel_rfl) (by kernel_rfl) (fun _ _ _ h => h) (Or.inl ⟨by rfl, ?_⟩) (by assumption) ?_
        rotate_left 1
        · intro w hSw
          try dsimp only at hSw
          go_simp
          all_goals with_reducible rfl
        try simp only [Act.put, List.setIfInBounds_toArray, List.set_cons_succ, List.set_cons_zero]
        refine wpAnyH_take (i := 4) (oi := ⟨some 92, .load 55 (.tmp 91), 55, "ref.go:443", #[⟨3, .data⟩], none⟩) (v := .agg ts.toArray) rfl (by kernel_rfl) (by kernel_rfl) (by kernel_rfl) (fun _ _ _ h => h) (yields_load (by rfl) 55 _ rfl (ad.add (x.toNat * 15)) rfl ts (fun w hS => hS.2.out.1) _ Try.underlying55 rfl (by rw [HL.out.1]; kernel_rfl)) (by assumption) ?_
        try simp only [Act.put, List.setIfInBounds_toArray, List.set_cons_succ, List.set_cons_zero]
        refine wpAnyH_take (i := 5) (oi := ⟨some 93, .fieldAddr 55 (.tmp 3) 9, 0, "ref.go:443", #[], none⟩) (v := ?_) rfl (by kernel_rfl) (by kernel_rfl) (by kernel_rfl) (fun _ _ _ h => h) (Or.inl ⟨by rfl, ?_⟩) (by assumption) ?_
        rotate_left 1
        · intro w hSw
          try dsimp only at hSw
          go_simp
          all_goals with_reducible rfl
        try simp only [Act.put, List.setIfInBounds_toArray, List.set_cons_succ, List.set_cons_zero]
        refine wpAnyH_take (i := 6) (oi := ⟨some 94, .load 53 (.tmp 93), 53, "ref.go:443", #[⟨5, .data⟩], none⟩) (v := ?_) rfl (by kernel_rfl) (by kernel_rfl) (by kernel_rfl) (fun _ _ _ h => h) (Or.inl ⟨by rfl, ?_⟩) (by assumption) ?_
        rotate_left 1
        · intro w hSw
          try dsimp only at hSw
          go_simp
          all_goals with_reducible rfl
        try simp only [Act.put, List.setIfInBounds_toArray, List.set_cons_succ, List.set_cons_zero]
        refine wpAnyH_take (i := 7) (oi := ⟨some 95, .move (.tmp 5), 3, "ref.go:443", #[], none⟩) (v := ?_) rfl (by kernel_rfl) (by kernel_rfl) (by kernel_rfl) (fun _ _ _ h => h) (Or.inl ⟨by rfl, ?_⟩) (by assumption) ?_
        rotate_left 1
        · intro w hSw
          try dsimp only at hSw
          go_simp
          all_goals with_reducible rfl
        try simp only [Act.put, List.setIfInBounds_toArray, List.set_cons_succ, List.set_cons_zero]
        refine wpAnyH_take (i := 8) (oi := ⟨some 96, .indexAddr 53 (.tmp 94) (.tmp 95), 0, "ref.go:443", #[⟨6, .data⟩, ⟨7, .data⟩], none⟩) (v := ?_) rfl (by kernel_rfl) (by kernel_rfl) (by kernel_rfl) (fun _ _ _ h => h) (Or.inl ⟨by rfl, ?_⟩) (by assumption) ?_
        rotate_left 1
        · intro w hSw
          try dsimp only at hSw
          go_simp
          all_goals with_reducible rfl
        try simp only [Act.put, List.setIfInBounds_toArray, List.set_cons_succ, List.set_cons_zero]
        refine wpAnyH_take (i := 9) (oi := ⟨some 97, .load 55 (.tmp 96), 55, "ref.go:443", #[⟨8, .data⟩], none⟩) (v := .agg ts'.toArray) rfl (by kernel_rfl) (by kernel_rfl) (by kernel_rfl) (fun _ _ _ h => h) (yields_load (by rfl) 55 _ rfl (ad'.add (x.toNat * 15)) rfl ts' (fun w hS => hS.2.out.2) _ Try.underlying55 rfl (by rw [HL.out.2]; kernel_rfl)) (by assumption) ?_
        try simp only [Act.put, List.setIfInBounds_toArray, List.set_cons_succ, List.set_cons_zero]
        refine wpAnyH_ready (rs := [10]) (by kernel_rfl) (by simp) ?_
        refine AllReadyH.cons (o := ⟨some 98, .call { callee := .value (.func 51), args := #[.tmp 92, .tmp 97], argTypes := #[55, 55] }, 4, "ref.go:443", #[⟨4, .data⟩, ⟨9, .data⟩], none⟩) rfl (fun K hK => ?_) AllReadyH.nil
        go_simp
        refine (HI.out.1 r HZ.out _ _ ts ts' HR.out.drew HX.out.1 HX.out.2).mono ?_
        rintro e w3 ⟨rfl, h3⟩
        refine hK.out _ _ ?_ (fun hHeld => ?_)
        · exact ⟨⟨(ty_cellsC HC.out.1 h3.two).2.2.2.2.2.2.2.2.2.2.2.2.2.2, (ty_cellsC HC.out.2 h3).2.2.2.2.2.2.2.2.2.2.2.2.2.2⟩, HF.out _ h3.below⟩
        clear hK K
        try simp only [Act.put, List.setIfInBounds_toArray, List.set_cons_succ, List.set_cons_zero]
        refine wpAnyH_take (i := 11) (oi := ⟨some 99, .unOp .not 4 (.tmp 98), 4, "ref.go:443", #[⟨10, .data⟩], none⟩) (v := ?_) rfl (by kernel_rfl) (by kernel_rfl) (by kernel_rfl) (fun _ _ _ h => h) (Or.inl ⟨by rfl, ?_⟩) (by assumption) ?_
        rotate_left 1
        · intro w hSw
          try dsimp only at hSw
          go_simp
          all_goals with_reducible rfl
        try simp only [Act.put, List.setIfInBounds_toArray, List.set_cons_succ, List.set_cons_zero]
        refine wpAnyH_done (by kernel_rfl) ?_ _
        have HD := Lib.hid h3
        clear h3 hHeld HR
        go_wp2
        exact ⟨⟨x + 1, by omega, by omega, by go_num, HD⟩, by simp only [intOf]; omega⟩
      · have hlt' : (x < (t.el.length : Int)) = False := eq_false hlt
        go_wp2
        go_ret
        exact ⟨rfl, HR.out.drop.drop⟩
theorem same_calls (t : Ty) (cs cs' : List Value) (h : S w0 w R) (hK : kTy.K w0 t cs) (hK' : kTy.K w0 t cs') :
    Calls Try.prog 51 #[.agg cs.toArray, .agg cs'.toArray] w fun e w' => e = .returned (.bool true) ∧ S w0 w' R :=
  sty_at _ t (Nat.lt_succ_self _) w R cs cs' h hK hK'
end Go.Proofs.Ytbjddomocggjmaa.Sc
