/- The law ScopeTwice: walked. -/
import Derived.Test.YtbjddomocggjmaaJAw
namespace Go.Proofs.Ytbjddomocggjmaa.Sc
open Go.RowKit Go.ChangeShapes Go.WideShapes Go.Proofs.Ytbjddomocggjmaa.Sep
open Go.Proofs.YtbjddomocggjmaaW.PrintWords
variable {B : Nat} {w0 w : World} {R : HP}
set_option maxHeartbeats 16000000 in
set_option maxRecDepth 100000 in
theorem ltwice_calls (A : Option Addr) (c : Nat) (l : List Md) (k : Int) (h : S w0 w R) (hC : kMd.C w0 A l.length l) (ho : ∀ m ∈ l, oMd m) (hnq : ∀ m ∈ l, oS (m.n ++ (⟨#[113]⟩ : ByteArray))) :
    Calls Try.prog 9 #[.slice A l.length c, .int .i64 k] w fun e w' => e = .returned (.bool true) ∧ S w0 w' R := by
  have hl : l.length ≤ 9223372036854775807 := hC.2.1
  have HA := Lib.hid (And.intro hC ho)
  have HNQ := Lib.hid hnq
  have H := Lib.hid h
  clear h hC ho hnq
  go_enter Try.func9, Try.ntmps9
  go_wp2_with fail
  refine (awake_calls H.out).mono ?_
  rintro e w1 ⟨rfl, h1⟩
  have H1 := Lib.hid h1
  clear h1 H
  go_wp2_with fail
  refine (lfew_calls A c l 40 (by decide) (by decide) H1.out HA.out.1 HA.out.2).mono ?_
  rintro e w2 ⟨b, rfl, h2, hf⟩
  have H2 := Lib.hid h2
  clear h2 H1
  cases e0 : b with
  | false =>
    clear hf
    go_wp2
    go_ret
    exact ⟨rfl, H2.out⟩
  | true =>
    have hf2 := hf e0
    clear hf e0
    by_cases z0 : l.length = 0
    · have y0 : ((l.length : Int) == 0) = true := beq_iff_eq.2 (by omega)
      clear hf2
      go_wp2
      go_ret
      exact ⟨rfl, H2.out⟩
    have y0 : ((l.length : Int) == 0) = false := beq_eq_false_iff_ne.2 (by omega)
    by_cases z1 : 40 < l.length
    · have y1 := eq_true (show (40 : Int) < l.length by omega)
      clear hf2 z0
      go_wp2
      go_ret
      exact ⟨rfl, H2.out⟩
    have y1 := eq_false (show ¬ (40 : Int) < l.length by omega)
    have HF : Hid (l.length ≤ 40 ∧ ∀ m ∈ l, (m.df.length : Int) ≤ 40) := Lib.hid (by
      rcases hf2 with hf2 | hf2
      · omega
      · exact ⟨by omega, hf2.2⟩)
    clear hf2
    go_wp2_with fail
    refine (resolve_at A c l H2.out (Kd.C_below HA.out.1 H2.out.below) HA.out.2).mono ?_
    rintro e w3 ⟨A1, n1, c1, xk1, he, -, -, h3⟩
    subst he
    have H3 := Lib.hid h3.drop.drop
    clear h3 H2
    by_cases z : (resP l).1 = 0
    case neg =>
      have z2 : ((resP l).1 != 0) = true := bne_iff_ne.2 z
      go_wp2
      go_ret
      exact ⟨rfl, H3.out⟩
    have z2 : ((resP l).1 != 0) = false := bne_eq_false_iff_eq.2 z
    have HZ := Lib.hid z
    clear z
    generalize (resP l).1 = r0 at z2 ⊢
    have q0 : 0 ≤ k % 65536 % (l.length : Int) := Int.emod_nonneg _ (by omega)
    have q1 : k % 65536 % (l.length : Int) < l.length := Int.emod_lt_of_pos _ (by omega)
    have a16 := and16 k
    obtain ⟨ad, cs, eA, hcl0, hK, hcell0⟩ := Kd.C_get HA.out.1 zMd (k % 65536 % (l.length : Int)) q0 q1
    cases eA
    have hcell : ∀ (j : Nat) (u : Value), cs[j]? = some u → w0.cell? (ad.add ((k % 65536 % (l.length : Int)).toNat * 4 + j)) = some u := hcell0
    have HG := Lib.hid (getD_mem l zMd (k % 65536 % (l.length : Int)) q0 q1)
    generalize l.getD (k % 65536 % (l.length : Int)).toNat zMd = r at *
    obtain ⟨A2, c2, A3, c3, rfl, -, g2, -, g3⟩ := kMd_open (show kMd.K w0 r cs from hK)
    have HM := Lib.hid (And.intro hK (And.intro g2 (And.intro g3 (And.intro (HA.out.2 r (List.mem_of_getElem? HG.out)) (List.mem_of_getElem? HG.out)))))
    have e0 : w3.cell? (ad.add ((k % 65536 % (l.length : Int)).toNat * 4)) = some (.string r.n) := pw_cell_below H3.out.below (hcell 0 _ rfl)
    have e1 : w3.cell? ⟨(ad.add ((k % 65536 % (l.length : Int)).toNat * 4)).block, (ad.add ((k % 65536 % (l.length : Int)).toNat * 4)).off + 1, none⟩ = some (.bool r.au) := by rw [← add_field ad _ 1 (by decide)]; exact pw_cell_below H3.out.below (hcell 1 _ rfl)
    have e2 : w3.cell? ⟨(ad.add ((k % 65536 % (l.length : Int)).toNat * 4)).block, (ad.add ((k % 65536 % (l.length : Int)).toNat * 4)).off + 2, none⟩ = some (.slice A2 r.im.length c2) := by rw [← add_field ad _ 2 (by decide)]; exact pw_cell_below H3.out.below (hcell 2 _ rfl)
    have e3 : w3.cell? ⟨(ad.add ((k % 65536 % (l.length : Int)).toNat * 4)).block, (ad.add ((k % 65536 % (l.length : Int)).toNat * 4)).off + 3, none⟩ = some (.slice A3 r.df.length c3) := by rw [← add_field ad _ 3 (by decide)]; exact pw_cell_below H3.out.below (hcell 3 _ rfl)
    have q0' := eq_true q0
    have q1' := eq_true q1
    clear hcell hcell0 hcl0 hK g2 g3
    generalize hg : w3.heap.size = g
    have H4 := Lib.hid (alloc_at (n := g) H3.out (.cells #[.string ⟨#[]⟩, .bool false, .slice none 0 0, .slice none 0 0] 47) hg.symm)
    go_wp2_with (refine held_store _ _ _ rfl ?_)
    refine ⟨?_⟩
    refine wpList_store_off rfl rfl [.string r.n, .bool r.au, .slice A2 r.im.length c2, .slice A3 r.df.length c3] rfl rfl rfl (by kernel_rfl) (by simp [Value.oneCell']) H4.out (by simp) (new := #[.string r.n, .bool r.au, .slice A2 r.im.length c2, .slice A3 r.df.length c3]) rfl ?_
    intro w5 h5
    have H5 := Lib.hid h5
    clear h5 H4 H3 hg e0 e1 e2 e3 q0 q1 q0' q1' a16
    generalize k % 65536 % (l.length : Int) = x at HG
    obtain ⟨xa, hRa, hla, hra⟩ := c_rows HA.out.1
    have HX := Lib.hid (And.intro hRa (And.intro hla (And.intro hra (reps_one hRa))))
    have hl40 : l.length ≤ 40 := HF.out.1
    clear hRa hla hra
    go_upto_region 8 with fail
    try simp only [Act.put]
    go_cut [9, 10] from 47 to 56 (fun s9 s10 wx => (∃ A n c, s9 = .slice A n c) ∧ s10 = .int .i64 7 ∧ S w0 wx (Blk g (.cells #[.string r.n, .bool r.au, .slice A2 r.im.length c2, .slice A3 r.df.length c3] 47) • R))
    case first =>
      refine wp_region_held_drew (S := fun W => W.cell? ⟨g, 0, none⟩ = some (.string r.n) ∧ W.cell? ⟨g, 1, none⟩ = some (.bool r.au) ∧ W.cell? ⟨g, 2, none⟩ = some (.slice A2 r.im.length c2) ∧ W.cell? ⟨g, 3, none⟩ = some (.slice A3 r.df.length c3)) (by kernel_rfl) ?_ (fun hHeld => ?_)
      · exact ⟨H5.out.cell 0 rfl, H5.out.cell 1 rfl, H5.out.cell 2 rfl, H5.out.cell 3 rfl⟩
      refine wpAnyH_take (i := 1) (oi := ⟨some 49, .move (.tmp 0), 39, "more.go:19", #[], none⟩) (v := ?_) rfl (by kernel_rfl) (by kernel_rfl) (by kernel_rfl) (fun _ _ _ h => h) (Or.inl ⟨by rfl, ?_⟩) (by assumption) ?_
      rotate_left 1
      · intro w hSw
        try dsimp only at hSw
        go_simp
        all_goals with_reducible rfl
      try simp only [Act.put]
      refine wpAnyH_take (i := 3) (oi := ⟨some 51, .load 47 (.tmp 8), 47, "more.go:19", #[], none⟩) (v := ?_) rfl (by kernel_rfl) (by kernel_rfl) (by kernel_rfl) (fun _ _ _ h => h) (Or.inl ⟨by rfl, ?_⟩) (by assumption) ?_
      rotate_left 1
      · intro w hSw
        try dsimp only at hSw
        go_simp
        all_goals with_reducible rfl
      try simp only [Act.put]
      refine wpAnyH_ready (rs := [0, 4]) (by kernel_rfl) (by simp) ?_
      refine AllReadyH.cons (o := ⟨some 48, .buildSlice 39 0 #[], 39, "more.go:19", #[], none⟩) rfl (fun K hK => ?_) (AllReadyH.cons (o := ⟨some 52, .buildSlice 39 1 #[(0, .tmp 51)], 39, "more.go:19", #[⟨3, .data⟩], none⟩) rfl (fun K hK => ?_) AllReadyH.nil)
      · go_simp
        have F1 := (made0 (e := 47) (size := 4) (n := w5.heap.size) H5.out rfl).drew
        refine hK.out _ _ ?_ (fun hHeld => ?_)
        · exact ⟨F1.two.cell 0 rfl, F1.two.cell 1 rfl, F1.two.cell 2 rfl, F1.two.cell 3 rfl⟩
        clear hK K
        try simp only [Act.put]
        refine wpAnyH_ready (rs := [2, 4]) (by kernel_rfl) (by simp) ?_
        refine AllReadyH.cons (o := ⟨some 50, .call { callee := .builtin .append, args := #[.tmp 48, .tmp 49], argTypes := #[39, 39] }, 39, "more.go:19", #[⟨0, .data⟩, ⟨1, .data⟩], none⟩) rfl (fun K hK => ?_) (AllReadyH.cons (o := ⟨some 52, .buildSlice 39 1 #[(0, .tmp 51)], 39, "more.go:19", #[⟨3, .data⟩], none⟩) rfl (fun K hK => ?_) AllReadyH.nil)
        · refine step_app (by rfl) _ _ Try.underlying39 info_mds rfl (by decide) (by rfl) _ (0) ([]) (by rfl) F1 (by rfl) HX.out.2.1 (fun j u hu => by
              obtain ⟨ad', e, hc⟩ := HX.out.2.2.1 j u hu
              exact ⟨ad', e, pw_cell_below F1.below hc⟩) HX.out.2.2.2 (by simp only [maxLen]; omega) (by omega) ?_
          intro v2 wa3 h4
          refine hK.out _ _ ?_ (fun hHeld => ?_)
          · exact ⟨h4.two.cell 0 rfl, h4.two.cell 1 rfl, h4.two.cell 2 rfl, h4.two.cell 3 rfl⟩
          clear hK K
          try simp only [Act.put]
          refine wpAnyH_ready (rs := [4]) (by kernel_rfl) (by simp) ?_
          refine AllReadyH.cons (o := ⟨some 52, .buildSlice 39 1 #[(0, .tmp 51)], 39, "more.go:19", #[⟨3, .data⟩], none⟩) rfl (fun K hK => ?_) AllReadyH.nil
          go_simp
          have F5 := (alloc_at (n := wa3.heap.size) h4 (.cells #[.string r.n, .bool r.au, .slice A2 r.im.length c2, .slice A3 r.df.length c3] 47) rfl)
          refine hK.out _ _ ?_ (fun hHeld => ?_)
          · exact ⟨F5.three.cell 0 rfl, F5.three.cell 1 rfl, F5.three.cell 2 rfl, F5.three.cell 3 rfl⟩
          clear hK K
          try simp only [Act.put]
          refine wpAnyH_ready (rs := [5]) (by kernel_rfl) (by simp) ?_
          refine AllReadyH.cons (o := ⟨some 53, .call { callee := .builtin .append, args := #[.tmp 50, .tmp 52], argTypes := #[39, 39] }, 39, "more.go:19", #[⟨2, .data⟩, ⟨4, .data⟩, ⟨2, .chain⟩], none⟩) rfl (fun K hK => ?_) AllReadyH.nil
          refine step_app (by rfl) _ _ Try.underlying39 info_mds rfl (by decide) (by rfl) _ (0 + l.length) ([] ++ xa) (by rfl) F5.two (by rfl) rfl (fun j u hu => ⟨_, rfl, by rw [Sep.add_plain]; exact F5.cell j (by simpa using hu)⟩) (by simp [Value.oneCell']) (by simp only [maxLen]; omega) (by omega) ?_
          intro v6 wa7 h8
          refine hK.out _ _ ?_ (fun hHeld => ?_)
          · exact ⟨h8.three.cell 0 rfl, h8.three.cell 1 rfl, h8.three.cell 2 rfl, h8.three.cell 3 rfl⟩
          clear hK K
          try simp only [Act.put]
          refine wpAnyH_ready (rs := [6]) (by kernel_rfl) (by simp) ?_
          refine AllReadyH.cons (o := ⟨some 54, .call { callee := .value (.func 19), args := #[.tmp 53], argTypes := #[39] }, 42, "more.go:19", #[⟨5, .data⟩, ⟨5, .chain⟩], none⟩) rfl (fun K hK => ?_) AllReadyH.nil
          go_simp
          have hRl := Reps.snoc (HX.out.1.imp_ fun _ _ hp => kMd.K_below h8.below hp) (kMd.K_below h8.below HM.out.1) rfl
          obtain ⟨A9, c10, rfl, hCl⟩ := row_C (d := kMd) (l := l ++ [r]) (by decide) (by simp) h8 hRl
          refine (resolve_at A9 c10 (l ++ [r]) h8 hCl (fun m hm => by
            rcases List.mem_append.1 hm with hm | hm
            · exact HA.out.2 m hm
            · rw [List.mem_singleton.1 hm]; exact HM.out.2.2.2.1)).mono ?_
          rintro e wr11 ⟨Ax, nx, cx, xx, he, -, -, h12⟩
          subst he
          rw [res_twice HZ.out HM.out.2.2.2.2 (by omega)]
          refine hK.out _ _ ?_ (fun hHeld => ?_)
          · exact ⟨(h12.drop.drop.drop.drop).cell 0 rfl, (h12.drop.drop.drop.drop).cell 1 rfl, (h12.drop.drop.drop.drop).cell 2 rfl, (h12.drop.drop.drop.drop).cell 3 rfl⟩
          clear hK K
          try simp only [Act.put]
          refine wpAnyH_take (i := 7) (oi := ⟨some 47, .move (.tmp 54), 42, "more.go:19", #[⟨6, .data⟩], none⟩) (v := ?_) rfl (by kernel_rfl) (by kernel_rfl) (by kernel_rfl) (fun _ _ _ h => h) (Or.inl ⟨by rfl, ?_⟩) (by assumption) ?_
          rotate_left 1
          · intro w hSw
            try dsimp only at hSw
            go_simp
            all_goals with_reducible rfl
          try simp only [Act.put]
          refine wpAnyH_take (i := 8) (oi := ⟨some 55, .extract (.tmp 47) 0, 41, "more.go:19", #[⟨7, .data⟩], none⟩) (v := ?_) rfl (by kernel_rfl) (by kernel_rfl) (by kernel_rfl) (fun _ _ _ h => h) (Or.inl ⟨by rfl, ?_⟩) (by assumption) ?_
          rotate_left 1
          · intro w hSw
            try dsimp only at hSw
            go_simp
            all_goals with_reducible rfl
          try simp only [Act.put]
          refine wpAnyH_take (i := 9) (oi := ⟨some 56, .extract (.tmp 47) 1, 25, "more.go:19", #[⟨7, .data⟩, { on := 10, ground := Ground.gcOnly Departure.lateStores }], none⟩) (v := ?_) rfl (by kernel_rfl) (by kernel_rfl) (by kernel_rfl) (fun _ _ _ h => h) (Or.inl ⟨by rfl, ?_⟩) (by assumption) ?_
          rotate_left 1
          · intro w hSw
            try dsimp only at hSw
            go_simp
            all_goals with_reducible rfl
          try simp only [Act.put]
          refine wpAnyH_take (i := 10) (oi := ⟨some 9, .assign (.tmp 55), 41, "more.go:19", #[⟨8, .data⟩, ⟨6, .chain⟩, ⟨0, .phase⟩, ⟨1, .phase⟩, ⟨2, .phase⟩, ⟨3, .phase⟩, ⟨4, .phase⟩, ⟨5, .phase⟩, ⟨6, .phase⟩, ⟨7, .phase⟩, ⟨8, .phase⟩, { on := 9, ground := Ground.textOnly Departure.lateStores }], none⟩) (v := ?_) rfl (by kernel_rfl) (by kernel_rfl) (by kernel_rfl) (fun _ _ _ h => h) (Or.inl ⟨by rfl, ?_⟩) (by assumption) ?_
          rotate_left 1
          · intro w hSw
            try dsimp only at hSw
            go_simp
            all_goals with_reducible rfl
          try simp only [Act.put]
          refine wpAnyH_take (i := 11) (oi := ⟨some 10, .assign (.tmp 56), 25, "more.go:19", #[⟨9, .data⟩, ⟨10, .chain⟩, ⟨0, .phase⟩, ⟨1, .phase⟩, ⟨2, .phase⟩, ⟨3, .phase⟩, ⟨4, .phase⟩, ⟨5, .phase⟩, ⟨6, .phase⟩, ⟨7, .phase⟩, ⟨8, .phase⟩, ⟨9, .phase⟩, ⟨10, .phase⟩], none⟩) (v := ?_) rfl (by kernel_rfl) (by kernel_rfl) (by kernel_rfl) (fun _ _ _ h => h) (Or.inl ⟨by rfl, ?_⟩) (by assumption) ?_
          rotate_left 1
          · intro w hSw
            try dsimp only at hSw
            go_simp
            all_goals with_reducible rfl
          try simp only [Act.put]
          refine wpAnyH_done (by kernel_rfl) ?_ _
          go_wp2_with fail
          go_meet
          exact ⟨⟨_, _, _, rfl⟩, rfl, h12.drop.drop.drop.drop⟩
        · go_simp
          have F13 := (alloc_at (n := w5.heap.size + 1) (made0 (e := 47) (size := 4) (n := w5.heap.size) H5.out rfl) (.cells #[.string r.n, .bool r.au, .slice A2 r.im.length c2, .slice A3 r.df.length c3] 47) (by simp)).drew
          refine hK.out _ _ ?_ (fun hHeld => ?_)
          · exact ⟨F13.three.cell 0 rfl, F13.three.cell 1 rfl, F13.three.cell 2 rfl, F13.three.cell 3 rfl⟩
          clear hK K
          try simp only [Act.put]
          refine wpAnyH_ready (rs := [2]) (by kernel_rfl) (by simp) ?_
          refine AllReadyH.cons (o := ⟨some 50, .call { callee := .builtin .append, args := #[.tmp 48, .tmp 49], argTypes := #[39, 39] }, 39, "more.go:19", #[⟨0, .data⟩, ⟨1, .data⟩], none⟩) rfl (fun K hK => ?_) AllReadyH.nil
          refine step_app (by rfl) _ _ Try.underlying39 info_mds rfl (by decide) (by rfl) _ (0) ([]) (by rfl) F13.two (by rfl) HX.out.2.1 (fun j u hu => by
              obtain ⟨ad', e, hc⟩ := HX.out.2.2.1 j u hu
              exact ⟨ad', e, pw_cell_below F13.below hc⟩) HX.out.2.2.2 (by simp only [maxLen]; omega) (by omega) ?_
          intro v14 wa15 h16
          refine hK.out _ _ ?_ (fun hHeld => ?_)
          · exact ⟨h16.three.cell 0 rfl, h16.three.cell 1 rfl, h16.three.cell 2 rfl, h16.three.cell 3 rfl⟩
          clear hK K
          try simp only [Act.put]
          refine wpAnyH_ready (rs := [5]) (by kernel_rfl) (by simp) ?_
          refine AllReadyH.cons (o := ⟨some 53, .call { callee := .builtin .append, args := #[.tmp 50, .tmp 52], argTypes := #[39, 39] }, 39, "more.go:19", #[⟨2, .data⟩, ⟨4, .data⟩, ⟨2, .chain⟩], none⟩) rfl (fun K hK => ?_) AllReadyH.nil
          refine step_app (by rfl) _ _ Try.underlying39 info_mds rfl (by decide) (by rfl) _ (0 + l.length) ([] ++ xa) (by rfl) h16 (by rfl) rfl (fun j u hu => ⟨_, rfl, by rw [Sep.add_plain]; exact h16.two.cell j (by simpa using hu)⟩) (by simp [Value.oneCell']) (by simp only [maxLen]; omega) (by omega) ?_
          intro v17 wa18 h19
          refine hK.out _ _ ?_ (fun hHeld => ?_)
          · exact ⟨h19.three.cell 0 rfl, h19.three.cell 1 rfl, h19.three.cell 2 rfl, h19.three.cell 3 rfl⟩
          clear hK K
          try simp only [Act.put]
          refine wpAnyH_ready (rs := [6]) (by kernel_rfl) (by simp) ?_
          refine AllReadyH.cons (o := ⟨some 54, .call { callee := .value (.func 19), args := #[.tmp 53], argTypes := #[39] }, 42, "more.go:19", #[⟨5, .data⟩, ⟨5, .chain⟩], none⟩) rfl (fun K hK => ?_) AllReadyH.nil
          go_simp
          have hRl := Reps.snoc (HX.out.1.imp_ fun _ _ hp => kMd.K_below h19.below hp) (kMd.K_below h19.below HM.out.1) rfl
          obtain ⟨A20, c21, rfl, hCl⟩ := row_C (d := kMd) (l := l ++ [r]) (by decide) (by simp) h19 hRl
          refine (resolve_at A20 c21 (l ++ [r]) h19 hCl (fun m hm => by
            rcases List.mem_append.1 hm with hm | hm
            · exact HA.out.2 m hm
            · rw [List.mem_singleton.1 hm]; exact HM.out.2.2.2.1)).mono ?_
          rintro e wr22 ⟨Ax, nx, cx, xx, he, -, -, h23⟩
          subst he
          rw [res_twice HZ.out HM.out.2.2.2.2 (by omega)]
          refine hK.out _ _ ?_ (fun hHeld => ?_)
          · exact ⟨(h23.drop.drop.drop.drop).cell 0 rfl, (h23.drop.drop.drop.drop).cell 1 rfl, (h23.drop.drop.drop.drop).cell 2 rfl, (h23.drop.drop.drop.drop).cell 3 rfl⟩
          clear hK K
          try simp only [Act.put]
          refine wpAnyH_take (i := 7) (oi := ⟨some 47, .move (.tmp 54), 42, "more.go:19", #[⟨6, .data⟩], none⟩) (v := ?_) rfl (by kernel_rfl) (by kernel_rfl) (by kernel_rfl) (fun _ _ _ h => h) (Or.inl ⟨by rfl, ?_⟩) (by assumption) ?_
          rotate_left 1
          · intro w hSw
            try dsimp only at hSw
            go_simp
            all_goals with_reducible rfl
          try simp only [Act.put]
          refine wpAnyH_take (i := 8) (oi := ⟨some 55, .extract (.tmp 47) 0, 41, "more.go:19", #[⟨7, .data⟩], none⟩) (v := ?_) rfl (by kernel_rfl) (by kernel_rfl) (by kernel_rfl) (fun _ _ _ h => h) (Or.inl ⟨by rfl, ?_⟩) (by assumption) ?_
          rotate_left 1
          · intro w hSw
            try dsimp only at hSw
            go_simp
            all_goals with_reducible rfl
          try simp only [Act.put]
          refine wpAnyH_take (i := 9) (oi := ⟨some 56, .extract (.tmp 47) 1, 25, "more.go:19", #[⟨7, .data⟩, { on := 10, ground := Ground.gcOnly Departure.lateStores }], none⟩) (v := ?_) rfl (by kernel_rfl) (by kernel_rfl) (by kernel_rfl) (fun _ _ _ h => h) (Or.inl ⟨by rfl, ?_⟩) (by assumption) ?_
          rotate_left 1
          · intro w hSw
            try dsimp only at hSw
            go_simp
            all_goals with_reducible rfl
          try simp only [Act.put]
          refine wpAnyH_take (i := 10) (oi := ⟨some 9, .assign (.tmp 55), 41, "more.go:19", #[⟨8, .data⟩, ⟨6, .chain⟩, ⟨0, .phase⟩, ⟨1, .phase⟩, ⟨2, .phase⟩, ⟨3, .phase⟩, ⟨4, .phase⟩, ⟨5, .phase⟩, ⟨6, .phase⟩, ⟨7, .phase⟩, ⟨8, .phase⟩, { on := 9, ground := Ground.textOnly Departure.lateStores }], none⟩) (v := ?_) rfl (by kernel_rfl) (by kernel_rfl) (by kernel_rfl) (fun _ _ _ h => h) (Or.inl ⟨by rfl, ?_⟩) (by assumption) ?_
          rotate_left 1
          · intro w hSw
            try dsimp only at hSw
            go_simp
            all_goals with_reducible rfl
          try simp only [Act.put]
          refine wpAnyH_take (i := 11) (oi := ⟨some 10, .assign (.tmp 56), 25, "more.go:19", #[⟨9, .data⟩, ⟨10, .chain⟩, ⟨0, .phase⟩, ⟨1, .phase⟩, ⟨2, .phase⟩, ⟨3, .phase⟩, ⟨4, .phase⟩, ⟨5, .phase⟩, ⟨6, .phase⟩, ⟨7, .phase⟩, ⟨8, .phase⟩, ⟨9, .phase⟩, ⟨10, .phase⟩], none⟩) (v := ?_) rfl (by kernel_rfl) (by kernel_rfl) (by kernel_rfl) (fun _ _ _ h => h) (Or.inl ⟨by rfl, ?_⟩) (by assumption) ?_
          rotate_left 1
          · intro w hSw
            try dsimp only at hSw
            go_simp
            all_goals with_reducible rfl
          try simp only [Act.put]
          refine wpAnyH_done (by kernel_rfl) ?_ _
          go_wp2_with fail
          go_meet
          exact ⟨⟨_, _, _, rfl⟩, rfl, h23.drop.drop.drop.drop⟩
      · go_simp
        have F24 := (alloc_at (n := w5.heap.size) H5.out (.cells #[.string r.n, .bool r.au, .slice A2 r.im.length c2, .slice A3 r.df.length c3] 47) rfl).drew
        refine hK.out _ _ ?_ (fun hHeld => ?_)
        · exact ⟨F24.two.cell 0 rfl, F24.two.cell 1 rfl, F24.two.cell 2 rfl, F24.two.cell 3 rfl⟩
        clear hK K
        try simp only [Act.put]
        refine wpAnyH_ready (rs := [0]) (by kernel_rfl) (by simp) ?_
        refine AllReadyH.cons (o := ⟨some 48, .buildSlice 39 0 #[], 39, "more.go:19", #[], none⟩) rfl (fun K hK => ?_) AllReadyH.nil
        go_simp
        have F25 := (made0 (e := 47) (size := 4) (n := w5.heap.size + 1) (alloc_at (n := w5.heap.size) H5.out (.cells #[.string r.n, .bool r.au, .slice A2 r.im.length c2, .slice A3 r.df.length c3] 47) rfl) (by simp)).drew
        refine hK.out _ _ ?_ (fun hHeld => ?_)
        · exact ⟨F25.three.cell 0 rfl, F25.three.cell 1 rfl, F25.three.cell 2 rfl, F25.three.cell 3 rfl⟩
        clear hK K
        try simp only [Act.put]
        refine wpAnyH_ready (rs := [2]) (by kernel_rfl) (by simp) ?_
        refine AllReadyH.cons (o := ⟨some 50, .call { callee := .builtin .append, args := #[.tmp 48, .tmp 49], argTypes := #[39, 39] }, 39, "more.go:19", #[⟨0, .data⟩, ⟨1, .data⟩], none⟩) rfl (fun K hK => ?_) AllReadyH.nil
        refine step_app (by rfl) _ _ Try.underlying39 info_mds rfl (by decide) (by rfl) _ (0) ([]) (by rfl) F25 (by rfl) HX.out.2.1 (fun j u hu => by
            obtain ⟨ad', e, hc⟩ := HX.out.2.2.1 j u hu
            exact ⟨ad', e, pw_cell_below F25.below hc⟩) HX.out.2.2.2 (by simp only [maxLen]; omega) (by omega) ?_
        intro v26 wa27 h28
        refine hK.out _ _ ?_ (fun hHeld => ?_)
        · exact ⟨h28.three.cell 0 rfl, h28.three.cell 1 rfl, h28.three.cell 2 rfl, h28.three.cell 3 rfl⟩
        clear hK K
        try simp only [Act.put]
        refine wpAnyH_ready (rs := [5]) (by kernel_rfl) (by simp) ?_
        refine AllReadyH.cons (o := ⟨some 53, .call { callee := .builtin .append, args := #[.tmp 50, .tmp 52], argTypes := #[39, 39] }, 39, "more.go:19", #[⟨2, .data⟩, ⟨4, .data⟩, ⟨2, .chain⟩], none⟩) rfl (fun K hK => ?_) AllReadyH.nil
        refine step_app (by rfl) _ _ Try.underlying39 info_mds rfl (by decide) (by rfl) _ (0 + l.length) ([] ++ xa) (by rfl) h28 (by rfl) rfl (fun j u hu => ⟨_, rfl, by rw [Sep.add_plain]; exact h28.two.cell j (by simpa using hu)⟩) (by simp [Value.oneCell']) (by simp only [maxLen]; omega) (by omega) ?_
        intro v29 wa30 h31
        refine hK.out _ _ ?_ (fun hHeld => ?_)
        · exact ⟨h31.three.cell 0 rfl, h31.three.cell 1 rfl, h31.three.cell 2 rfl, h31.three.cell 3 rfl⟩
        clear hK K
        try simp only [Act.put]
        refine wpAnyH_ready (rs := [6]) (by kernel_rfl) (by simp) ?_
        refine AllReadyH.cons (o := ⟨some 54, .call { callee := .value (.func 19), args := #[.tmp 53], argTypes := #[39] }, 42, "more.go:19", #[⟨5, .data⟩, ⟨5, .chain⟩], none⟩) rfl (fun K hK => ?_) AllReadyH.nil
        go_simp
        have hRl := Reps.snoc (HX.out.1.imp_ fun _ _ hp => kMd.K_below h31.below hp) (kMd.K_below h31.below HM.out.1) rfl
        obtain ⟨A32, c33, rfl, hCl⟩ := row_C (d := kMd) (l := l ++ [r]) (by decide) (by simp) h31 hRl
        refine (resolve_at A32 c33 (l ++ [r]) h31 hCl (fun m hm => by
          rcases List.mem_append.1 hm with hm | hm
          · exact HA.out.2 m hm
          · rw [List.mem_singleton.1 hm]; exact HM.out.2.2.2.1)).mono ?_
        rintro e wr34 ⟨Ax, nx, cx, xx, he, -, -, h35⟩
        subst he
        rw [res_twice HZ.out HM.out.2.2.2.2 (by omega)]
        refine hK.out _ _ ?_ (fun hHeld => ?_)
        · exact ⟨(h35.drop.drop.drop.drop).cell 0 rfl, (h35.drop.drop.drop.drop).cell 1 rfl, (h35.drop.drop.drop.drop).cell 2 rfl, (h35.drop.drop.drop.drop).cell 3 rfl⟩
        clear hK K
        try simp only [Act.put]
        refine wpAnyH_take (i := 7) (oi := ⟨some 47, .move (.tmp 54), 42, "more.go:19", #[⟨6, .data⟩], none⟩) (v := ?_) rfl (by kernel_rfl) (by kernel_rfl) (by kernel_rfl) (fun _ _ _ h => h) (Or.inl ⟨by rfl, ?_⟩) (by assumption) ?_
        rotate_left 1
        · intro w hSw
          try dsimp only at hSw
          go_simp
          all_goals with_reducible rfl
        try simp only [Act.put]
        refine wpAnyH_take (i := 8) (oi := ⟨some 55, .extract (.tmp 47) 0, 41, "more.go:19", #[⟨7, .data⟩], none⟩) (v := ?_) rfl (by kernel_rfl) (by kernel_rfl) (by kernel_rfl) (fun _ _ _ h => h) (Or.inl ⟨by rfl, ?_⟩) (by assumption) ?_
        rotate_left 1
        · intro w hSw
          try dsimp only at hSw
          go_simp
          all_goals with_reducible rfl
        try simp only [Act.put]
        refine wpAnyH_take (i := 9) (oi := ⟨some 56, .extract (.tmp 47) 1, 25, "more.go:19", #[⟨7, .data⟩, { on := 10, ground := Ground.gcOnly Departure.lateStores }], none⟩) (v := ?_) rfl (by kernel_rfl) (by kernel_rfl) (by kernel_rfl) (fun _ _ _ h => h) (Or.inl ⟨by rfl, ?_⟩) (by assumption) ?_
        rotate_left 1
        · intro w hSw
          try dsimp only at hSw
          go_simp
          all_goals with_reducible rfl
        try simp only [Act.put]
        refine wpAnyH_take (i := 10) (oi := ⟨some 9, .assign (.tmp 55), 41, "more.go:19", #[⟨8, .data⟩, ⟨6, .chain⟩, ⟨0, .phase⟩, ⟨1, .phase⟩, ⟨2, .phase⟩, ⟨3, .phase⟩, ⟨4, .phase⟩, ⟨5, .phase⟩, ⟨6, .phase⟩, ⟨7, .phase⟩, ⟨8, .phase⟩, { on := 9, ground := Ground.textOnly Departure.lateStores }], none⟩) (v := ?_) rfl (by kernel_rfl) (by kernel_rfl) (by kernel_rfl) (fun _ _ _ h => h) (Or.inl ⟨by rfl, ?_⟩) (by assumption) ?_
        rotate_left 1
        · intro w hSw
          try dsimp only at hSw
          go_simp
          all_goals with_reducible rfl
        try simp only [Act.put]
        refine wpAnyH_take (i := 11) (oi := ⟨some 10, .assign (.tmp 56), 25, "more.go:19", #[⟨9, .data⟩, ⟨10, .chain⟩, ⟨0, .phase⟩, ⟨1, .phase⟩, ⟨2, .phase⟩, ⟨3, .phase⟩, ⟨4, .phase⟩, ⟨5, .phase⟩, ⟨6, .phase⟩, ⟨7, .phase⟩, ⟨8, .phase⟩, ⟨9, .phase⟩, ⟨10, .phase⟩], none⟩) (v := ?_) rfl (by kernel_rfl) (by kernel_rfl) (by kernel_rfl) (fun _ _ _ h => h) (Or.inl ⟨by rfl, ?_⟩) (by assumption) ?_
        rotate_left 1
        · intro w hSw
          try dsimp only at hSw
          go_simp
          all_goals with_reducible rfl
        try simp only [Act.put]
        refine wpAnyH_done (by kernel_rfl) ?_ _
        go_wp2_with fail
        go_meet
        exact ⟨⟨_, _, _, rfl⟩, rfl, h35.drop.drop.drop.drop⟩
    case rest =>
      obtain ⟨⟨A9, n9, c9, rfl⟩, rfl, hc⟩ := hcut
      have H6 := Lib.hid hc
      clear hc H5
      have d3 := H6.out.cell 3 rfl
      by_cases zd : r.df.length = 0
      · have y2 : ((r.df.length : Int) == 0) = true := beq_iff_eq.2 (by omega)
        clear zd
        go_wp2
        go_ret
        exact ⟨rfl, H6.out.drop⟩
      have y2 : ((r.df.length : Int) == 0) = false := beq_eq_false_iff_ne.2 (by omega)
      have d0 := H6.out.cell 0 rfl
      have d1 := H6.out.cell 1 rfl
      have d2 := H6.out.cell 2 rfl
      have hzd := Lib.hid zd
      clear zd
      generalize hg2 : wc.heap.size = g2
      have H7 := Lib.hid (alloc_at (n := g2) H6.out (.cells #[.string ⟨#[]⟩, .bool false, .slice none 0 0, .slice none 0 0] 47) hg2.symm)
      go_wp2_with (refine held_store _ _ _ rfl ?_)
      refine ⟨?_⟩
      refine wpList_store_off rfl rfl [.string r.n, .bool r.au, .slice A2 r.im.length c2, .slice A3 r.df.length c3] rfl rfl rfl (by kernel_rfl) (by simp [Value.oneCell']) H7.out (by simp) (new := #[.string r.n, .bool r.au, .slice A2 r.im.length c2, .slice A3 r.df.length c3]) rfl ?_
      intro wb hb
      have H8 := Lib.hid hb
      clear hb H7 H6 hg2 d0 d1 d2 d3 y2
      have z0 : 0 < r.df.length := by have := hzd.out; omega
      obtain ⟨ad3, ds, eA, hcl3, hKd, hcell3⟩ := Kd.C_get HM.out.2.2.1 zDf 0 (by omega) (by omega)
      cases eA
      have hcell : ∀ (j : Nat) (u : Value), ds[j]? = some u → w0.cell? (ad3.add j) = some u := fun j u hu => by have := hcell3 j u hu; rwa [show (0 : Int).toNat * kDf.sz + j = j by simp] at this
      have HGd := Lib.hid (getD_mem r.df zDf 0 (by omega) (by omega))
      generalize r.df.getD (0 : Int).toNat zDf = d at *
      obtain ⟨ts, rfl, hT⟩ := kDf_open (show kDf.K w0 d ds from hKd)
      obtain ⟨A7, c7, A10, c10, A11, c11, A12, c12, A13, c13, A14, c14, rfl, -⟩ := kTy_open (id hT)
      have HD0 := Lib.hid (And.intro (show kDf.K w0 d [.string d.n, .int .i64 d.t.k, .string d.t.n, .int .i64 d.t.c.f0, .int .i64 d.t.c.f1, .int .i64 d.t.c.f2, .bool d.t.c.f3, .bool d.t.c.f4, .slice A7 d.t.c.f5.length c7, .bool d.t.e, .string d.t.fr, .slice A10 d.t.ns.length c10, .slice A11 d.t.mo.length c11, .slice A12 d.t.ps.length c12, .slice A13 d.t.ad.length c13, .slice A14 d.t.el.length c14] from hKd) (List.mem_of_getElem? HGd.out))
      have HCd : Hid (∀ W, Below w0.heap.size w0 W → W.cell? ad3 = some (.string d.n) ∧ W.cell? ⟨ad3.block, ad3.off + 1, none⟩ = some (.int .i64 d.t.k) ∧ W.cell? ⟨ad3.block, ad3.off + 2, none⟩ = some (.string d.t.n) ∧ W.cell? ⟨ad3.block, ad3.off + 3, none⟩ = some (.int .i64 d.t.c.f0) ∧ W.cell? ⟨ad3.block, ad3.off + 4, none⟩ = some (.int .i64 d.t.c.f1) ∧ W.cell? ⟨ad3.block, ad3.off + 5, none⟩ = some (.int .i64 d.t.c.f2) ∧ W.cell? ⟨ad3.block, ad3.off + 6, none⟩ = some (.bool d.t.c.f3) ∧ W.cell? ⟨ad3.block, ad3.off + 7, none⟩ = some (.bool d.t.c.f4) ∧ W.cell? ⟨ad3.block, ad3.off + 8, none⟩ = some (.slice A7 d.t.c.f5.length c7) ∧ W.cell? ⟨ad3.block, ad3.off + 9, none⟩ = some (.bool d.t.e) ∧ W.cell? ⟨ad3.block, ad3.off + 10, none⟩ = some (.string d.t.fr) ∧ W.cell? ⟨ad3.block, ad3.off + 11, none⟩ = some (.slice A10 d.t.ns.length c10) ∧ W.cell? ⟨ad3.block, ad3.off + 12, none⟩ = some (.slice A11 d.t.mo.length c11) ∧ W.cell? ⟨ad3.block, ad3.off + 13, none⟩ = some (.slice A12 d.t.ps.length c12) ∧ W.cell? ⟨ad3.block, ad3.off + 14, none⟩ = some (.slice A13 d.t.ad.length c13) ∧ W.cell? ⟨ad3.block, ad3.off + 15, none⟩ = some (.slice A14 d.t.el.length c14)) := Lib.hid fun W hW => by
        have hh : ∀ j u, ([.string d.n, .int .i64 d.t.k, .string d.t.n, .int .i64 d.t.c.f0, .int .i64 d.t.c.f1, .int .i64 d.t.c.f2, .bool d.t.c.f3, .bool d.t.c.f4, .slice A7 d.t.c.f5.length c7, .bool d.t.e, .string d.t.fr, .slice A10 d.t.ns.length c10, .slice A11 d.t.mo.length c11, .slice A12 d.t.ps.length c12, .slice A13 d.t.ad.length c13, .slice A14 d.t.el.length c14] : List Value)[j]? = some u → W.cell? (ad3.add j) = some u := fun j u hu => pw_cell_below hW (hcell j u hu)
        refine ⟨?_, ?_, ?_, ?_, ?_, ?_, ?_, ?_, ?_, ?_, ?_, ?_, ?_, ?_, ?_, ?_⟩
        · have h := hh 0 _ rfl
          rwa [add_zero1] at h
        · rw [← add_field1 ad3 1 (by decide)]; exact hh 1 _ rfl
        · rw [← add_field1 ad3 2 (by decide)]; exact hh 2 _ rfl
        · rw [← add_field1 ad3 3 (by decide)]; exact hh 3 _ rfl
        · rw [← add_field1 ad3 4 (by decide)]; exact hh 4 _ rfl
        · rw [← add_field1 ad3 5 (by decide)]; exact hh 5 _ rfl
        · rw [← add_field1 ad3 6 (by decide)]; exact hh 6 _ rfl
        · rw [← add_field1 ad3 7 (by decide)]; exact hh 7 _ rfl
        · rw [← add_field1 ad3 8 (by decide)]; exact hh 8 _ rfl
        · rw [← add_field1 ad3 9 (by decide)]; exact hh 9 _ rfl
        · rw [← add_field1 ad3 10 (by decide)]; exact hh 10 _ rfl
        · rw [← add_field1 ad3 11 (by decide)]; exact hh 11 _ rfl
        · rw [← add_field1 ad3 12 (by decide)]; exact hh 12 _ rfl
        · rw [← add_field1 ad3 13 (by decide)]; exact hh 13 _ rfl
        · rw [← add_field1 ad3 14 (by decide)]; exact hh 14 _ rfl
        · rw [← add_field1 ad3 15 (by decide)]; exact hh 15 _ rfl
      obtain ⟨xd, hRd, hld, hrd⟩ := c_rows HM.out.2.2.1
      have HXd := Lib.hid (And.intro hRd (And.intro hld (And.intro hrd (reps_one hRd))))
      have hd40 : r.df.length ≤ 40 := by have := HF.out.2 r HM.out.2.2.2.2; omega
      have hr63 : r.df.length ≤ 9223372036854775807 := by omega
      have y3 := eq_true z0
      have y4 := eq_true (show (0 : Int) < r.df.length by omega)
      clear hRd hld hrd hcell hcell3 hKd hT hcl3 z0
      go_upto_region 12 with fail
      try simp only [Act.put]
      go_cut [] from 67 to 77 (fun wx => ∃ Ad cd xe, S w0 wx (Blk g2 (.cells #[.string r.n, .bool r.au, .slice A2 r.im.length c2, .slice Ad (r.df.length + 1) cd] 47) • (RowV 59 16 (.slice Ad (r.df.length + 1) cd) (r.df.length + 1) xe • (Blk g (.cells #[.string r.n, .bool r.au, .slice A2 r.im.length c2, .slice (some ad3) r.df.length c3] 47) • R))) ∧ Reps (kDf.K w0) 16 (r.df ++ [d]) xe)
      case first =>
        refine wp_region_held_drew (S := fun W => W.cell? ⟨g, 3, none⟩ = some (.slice (some ad3) r.df.length c3) ∧ W.cell? ad3 = some (.string d.n) ∧ W.cell? ⟨ad3.block, ad3.off + 1, none⟩ = some (.int .i64 d.t.k) ∧ W.cell? ⟨ad3.block, ad3.off + 2, none⟩ = some (.string d.t.n) ∧ W.cell? ⟨ad3.block, ad3.off + 3, none⟩ = some (.int .i64 d.t.c.f0) ∧ W.cell? ⟨ad3.block, ad3.off + 4, none⟩ = some (.int .i64 d.t.c.f1) ∧ W.cell? ⟨ad3.block, ad3.off + 5, none⟩ = some (.int .i64 d.t.c.f2) ∧ W.cell? ⟨ad3.block, ad3.off + 6, none⟩ = some (.bool d.t.c.f3) ∧ W.cell? ⟨ad3.block, ad3.off + 7, none⟩ = some (.bool d.t.c.f4) ∧ W.cell? ⟨ad3.block, ad3.off + 8, none⟩ = some (.slice A7 d.t.c.f5.length c7) ∧ W.cell? ⟨ad3.block, ad3.off + 9, none⟩ = some (.bool d.t.e) ∧ W.cell? ⟨ad3.block, ad3.off + 10, none⟩ = some (.string d.t.fr) ∧ W.cell? ⟨ad3.block, ad3.off + 11, none⟩ = some (.slice A10 d.t.ns.length c10) ∧ W.cell? ⟨ad3.block, ad3.off + 12, none⟩ = some (.slice A11 d.t.mo.length c11) ∧ W.cell? ⟨ad3.block, ad3.off + 13, none⟩ = some (.slice A12 d.t.ps.length c12) ∧ W.cell? ⟨ad3.block, ad3.off + 14, none⟩ = some (.slice A13 d.t.ad.length c13) ∧ W.cell? ⟨ad3.block, ad3.off + 15, none⟩ = some (.slice A14 d.t.el.length c14)) (by kernel_rfl) ?_ (fun hHeld => ?_)
        · exact ⟨H8.out.two.cell 3 rfl, HCd.out _ H8.out.drew.below⟩
        refine wpAnyH_take (i := 1) (oi := ⟨some 68, .fieldAddr 47 (.tmp 8) 3, 0, "more.go:24", #[], none⟩) (v := ?_) rfl (by kernel_rfl) (by kernel_rfl) (by kernel_rfl) (fun _ _ _ h => h) (Or.inl ⟨by rfl, ?_⟩) (by assumption) ?_
        rotate_left 1
        · intro w hSw
          try dsimp only at hSw
          go_simp
          all_goals with_reducible rfl
        try simp only [Act.put]
        refine wpAnyH_take (i := 2) (oi := ⟨some 69, .load 45 (.tmp 68), 45, "more.go:24", #[⟨1, .data⟩], none⟩) (v := ?_) rfl (by kernel_rfl) (by kernel_rfl) (by kernel_rfl) (fun _ _ _ h => h) (Or.inl ⟨by rfl, ?_⟩) (by assumption) ?_
        rotate_left 1
        · intro w hSw
          try dsimp only at hSw
          go_simp
          all_goals with_reducible rfl
        try simp only [Act.put]
        refine wpAnyH_take (i := 4) (oi := ⟨some 71, .fieldAddr 47 (.tmp 8) 3, 0, "more.go:24", #[], none⟩) (v := ?_) rfl (by kernel_rfl) (by kernel_rfl) (by kernel_rfl) (fun _ _ _ h => h) (Or.inl ⟨by rfl, ?_⟩) (by assumption) ?_
        rotate_left 1
        · intro w hSw
          try dsimp only at hSw
          go_simp
          all_goals with_reducible rfl
        try simp only [Act.put]
        refine wpAnyH_take (i := 5) (oi := ⟨some 72, .load 45 (.tmp 71), 45, "more.go:24", #[⟨4, .data⟩], none⟩) (v := ?_) rfl (by kernel_rfl) (by kernel_rfl) (by kernel_rfl) (fun _ _ _ h => h) (Or.inl ⟨by rfl, ?_⟩) (by assumption) ?_
        rotate_left 1
        · intro w hSw
          try dsimp only at hSw
          go_simp
          all_goals with_reducible rfl
        try simp only [Act.put]
        refine wpAnyH_take (i := 6) (oi := ⟨some 73, .indexAddr 45 (.tmp 72) (.const (.int .i64 0)), 0, "more.go:24", #[⟨5, .data⟩], none⟩) (v := ?_) rfl (by kernel_rfl) (by kernel_rfl) (by kernel_rfl) (fun _ _ _ h => h) (Or.inl ⟨by rfl, ?_⟩) (by assumption) ?_
        rotate_left 1
        · intro w hSw
          try dsimp only at hSw
          go_simp
          all_goals with_reducible rfl
        try simp only [Act.put]
        refine wpAnyH_take (i := 7) (oi := ⟨some 74, .load 59 (.tmp 73), 59, "more.go:24", #[⟨6, .data⟩], none⟩) (v := ?_) rfl (by kernel_rfl) (by kernel_rfl) (by kernel_rfl) (fun _ _ _ h => h) (Or.inl ⟨by rfl, ?_⟩) (by assumption) ?_
        rotate_left 1
        · intro w hSw
          try dsimp only at hSw
          go_simp
          all_goals with_reducible rfl
        try simp only [Act.put]
        refine wpAnyH_ready (rs := [0, 8]) (by kernel_rfl) (by simp) ?_
        refine AllReadyH.cons (o := ⟨some 67, .buildSlice 45 0 #[], 45, "more.go:24", #[], none⟩) rfl (fun K hK => ?_) (AllReadyH.cons (o := ⟨some 75, .buildSlice 45 1 #[(0, .tmp 74)], 45, "more.go:24", #[⟨7, .data⟩], none⟩) rfl (fun K hK => ?_) AllReadyH.nil)
        · go_simp
          have F36 := (made0 (e := 59) (size := 16) (n := wb.heap.size) H8.out rfl).drew
          refine hK.out _ _ ?_ (fun hHeld => ?_)
          · exact ⟨F36.three.cell 3 rfl, HCd.out _ F36.below⟩
          clear hK K
          try simp only [Act.put]
          refine wpAnyH_ready (rs := [3, 8]) (by kernel_rfl) (by simp) ?_
          refine AllReadyH.cons (o := ⟨some 70, .call { callee := .builtin .append, args := #[.tmp 67, .tmp 69], argTypes := #[45, 45] }, 45, "more.go:24", #[⟨0, .data⟩, ⟨2, .data⟩], none⟩) rfl (fun K hK => ?_) (AllReadyH.cons (o := ⟨some 75, .buildSlice 45 1 #[(0, .tmp 74)], 45, "more.go:24", #[⟨7, .data⟩], none⟩) rfl (fun K hK => ?_) AllReadyH.nil)
          · refine step_app (by rfl) _ _ Try.underlying45 info_dfs rfl (by decide) (by rfl) _ (0) ([]) (by rfl) F36 (by rfl) HXd.out.2.1 (fun j u hu => by
                obtain ⟨ad', e, hc⟩ := HXd.out.2.2.1 j u hu
                exact ⟨ad', e, pw_cell_below F36.below hc⟩) HXd.out.2.2.2 (by simp only [maxLen]; omega) (by omega) ?_
            intro v37 wa38 h39
            refine hK.out _ _ ?_ (fun hHeld => ?_)
            · exact ⟨h39.three.cell 3 rfl, HCd.out _ h39.below⟩
            clear hK K
            try simp only [Act.put]
            refine wpAnyH_ready (rs := [8]) (by kernel_rfl) (by simp) ?_
            refine AllReadyH.cons (o := ⟨some 75, .buildSlice 45 1 #[(0, .tmp 74)], 45, "more.go:24", #[⟨7, .data⟩], none⟩) rfl (fun K hK => ?_) AllReadyH.nil
            go_simp
            have F40 := (alloc_at (n := wa38.heap.size) h39 (.cells #[.string d.n, .int .i64 d.t.k, .string d.t.n, .int .i64 d.t.c.f0, .int .i64 d.t.c.f1, .int .i64 d.t.c.f2, .bool d.t.c.f3, .bool d.t.c.f4, .slice A7 d.t.c.f5.length c7, .bool d.t.e, .string d.t.fr, .slice A10 d.t.ns.length c10, .slice A11 d.t.mo.length c11, .slice A12 d.t.ps.length c12, .slice A13 d.t.ad.length c13, .slice A14 d.t.el.length c14] 59) rfl)
            refine hK.out _ _ ?_ (fun hHeld => ?_)
            · exact ⟨(four F40).cell 3 rfl, HCd.out _ F40.below⟩
            clear hK K
            try simp only [Act.put]
            refine wpAnyH_ready (rs := [9]) (by kernel_rfl) (by simp) ?_
            refine AllReadyH.cons (o := ⟨some 76, .call { callee := .builtin .append, args := #[.tmp 70, .tmp 75], argTypes := #[45, 45] }, 45, "more.go:24", #[⟨3, .data⟩, ⟨8, .data⟩, ⟨3, .chain⟩], none⟩) rfl (fun K hK => ?_) AllReadyH.nil
            refine step_app (by rfl) _ _ Try.underlying45 info_dfs rfl (by decide) (by rfl) _ (0 + r.df.length) ([] ++ xd) (by rfl) F40.two (by rfl) rfl (fun j u hu => ⟨_, rfl, by rw [Sep.add_plain]; exact F40.cell j (by simpa using hu)⟩) (by simp [Value.oneCell']) (by simp only [maxLen]; omega) (by omega) ?_
            intro v41 wa42 h43
            obtain ⟨-, A44, c45, rfl, -⟩ := id h43.reads
            refine hK.out _ _ ?_ (fun hHeld => ?_)
            · exact ⟨(four h43).cell 3 rfl, HCd.out _ h43.below⟩
            clear hK K
            try simp only [Act.put]
            refine wpAnyH_take (i := 10) (oi := ⟨some 77, .fieldAddr 47 (.tmp 11) 3, 0, "more.go:24", #[⟨0, .phase⟩, ⟨1, .phase⟩, ⟨2, .phase⟩, ⟨3, .phase⟩, ⟨4, .phase⟩, ⟨5, .phase⟩, ⟨6, .phase⟩, ⟨7, .phase⟩, ⟨8, .phase⟩, ⟨9, .phase⟩], none⟩) (v := ?_) rfl (by kernel_rfl) (by kernel_rfl) (by kernel_rfl) (fun _ _ _ h => h) (Or.inl ⟨by rfl, ?_⟩) (by assumption) ?_
            rotate_left 1
            · intro w hSw
              try dsimp only at hSw
              go_simp
              all_goals with_reducible rfl
            try simp only [Act.put]
            refine wpAnyH_ready (rs := [11]) (by kernel_rfl) (by simp) ?_
            refine AllReadyH.cons (o := ⟨none, .store 45 (.tmp 77) (.tmp 76), 0, "more.go:24", #[⟨10, .data⟩, ⟨9, .data⟩, ⟨9, .chain⟩, ⟨0, .phase⟩, ⟨1, .phase⟩, ⟨2, .phase⟩, ⟨3, .phase⟩, ⟨4, .phase⟩, ⟨5, .phase⟩, ⟨6, .phase⟩, ⟨7, .phase⟩, ⟨8, .phase⟩, ⟨9, .phase⟩], none⟩) rfl (fun K hK => ?_) AllReadyH.nil
            refine step_store_off (by rfl) rfl [.slice A44 (0 + r.df.length + 1) c45] rfl rfl rfl (by kernel_rfl) (by simp [Value.oneCell']) h43.three (by simp) (new := #[.string r.n, .bool r.au, .slice A2 r.im.length c2, .slice A44 (0 + r.df.length + 1) c45]) rfl ?_
            intro wa46 h47
            refine hK.out _ _ ?_ (fun hHeld => ?_)
            · exact ⟨(four h47).cell 3 rfl, HCd.out _ h47.below⟩
            clear hK K
            try simp only [Act.put]
            refine wpAnyH_done (by kernel_rfl) ?_ _
            go_wp2_with fail
            go_meet
            rw [Nat.zero_add] at h47
            exact ⟨_, _, _, h47.three.drop, Reps.snoc HXd.out.1 HD0.out.1 rfl⟩
          · go_simp
            have F48 := (alloc_at (n := wb.heap.size + 1) (made0 (e := 59) (size := 16) (n := wb.heap.size) H8.out rfl) (.cells #[.string d.n, .int .i64 d.t.k, .string d.t.n, .int .i64 d.t.c.f0, .int .i64 d.t.c.f1, .int .i64 d.t.c.f2, .bool d.t.c.f3, .bool d.t.c.f4, .slice A7 d.t.c.f5.length c7, .bool d.t.e, .string d.t.fr, .slice A10 d.t.ns.length c10, .slice A11 d.t.mo.length c11, .slice A12 d.t.ps.length c12, .slice A13 d.t.ad.length c13, .slice A14 d.t.el.length c14] 59) (by simp)).drew
            refine hK.out _ _ ?_ (fun hHeld => ?_)
            · exact ⟨(four F48).cell 3 rfl, HCd.out _ F48.below⟩
            clear hK K
            try simp only [Act.put]
            refine wpAnyH_ready (rs := [3]) (by kernel_rfl) (by simp) ?_
            refine AllReadyH.cons (o := ⟨some 70, .call { callee := .builtin .append, args := #[.tmp 67, .tmp 69], argTypes := #[45, 45] }, 45, "more.go:24", #[⟨0, .data⟩, ⟨2, .data⟩], none⟩) rfl (fun K hK => ?_) AllReadyH.nil
            refine step_app (by rfl) _ _ Try.underlying45 info_dfs rfl (by decide) (by rfl) _ (0) ([]) (by rfl) F48.two (by rfl) HXd.out.2.1 (fun j u hu => by
                obtain ⟨ad', e, hc⟩ := HXd.out.2.2.1 j u hu
                exact ⟨ad', e, pw_cell_below F48.below hc⟩) HXd.out.2.2.2 (by simp only [maxLen]; omega) (by omega) ?_
            intro v49 wa50 h51
            refine hK.out _ _ ?_ (fun hHeld => ?_)
            · exact ⟨(four h51).cell 3 rfl, HCd.out _ h51.below⟩
            clear hK K
            try simp only [Act.put]
            refine wpAnyH_ready (rs := [9]) (by kernel_rfl) (by simp) ?_
            refine AllReadyH.cons (o := ⟨some 76, .call { callee := .builtin .append, args := #[.tmp 70, .tmp 75], argTypes := #[45, 45] }, 45, "more.go:24", #[⟨3, .data⟩, ⟨8, .data⟩, ⟨3, .chain⟩], none⟩) rfl (fun K hK => ?_) AllReadyH.nil
            refine step_app (by rfl) _ _ Try.underlying45 info_dfs rfl (by decide) (by rfl) _ (0 + r.df.length) ([] ++ xd) (by rfl) h51 (by rfl) rfl (fun j u hu => ⟨_, rfl, by rw [Sep.add_plain]; exact h51.two.cell j (by simpa using hu)⟩) (by simp [Value.oneCell']) (by simp only [maxLen]; omega) (by omega) ?_
            intro v52 wa53 h54
            obtain ⟨-, A55, c56, rfl, -⟩ := id h54.reads
            refine hK.out _ _ ?_ (fun hHeld => ?_)
            · exact ⟨(four h54).cell 3 rfl, HCd.out _ h54.below⟩
            clear hK K
            try simp only [Act.put]
            refine wpAnyH_take (i := 10) (oi := ⟨some 77, .fieldAddr 47 (.tmp 11) 3, 0, "more.go:24", #[⟨0, .phase⟩, ⟨1, .phase⟩, ⟨2, .phase⟩, ⟨3, .phase⟩, ⟨4, .phase⟩, ⟨5, .phase⟩, ⟨6, .phase⟩, ⟨7, .phase⟩, ⟨8, .phase⟩, ⟨9, .phase⟩], none⟩) (v := ?_) rfl (by kernel_rfl) (by kernel_rfl) (by kernel_rfl) (fun _ _ _ h => h) (Or.inl ⟨by rfl, ?_⟩) (by assumption) ?_
            rotate_left 1
            · intro w hSw
              try dsimp only at hSw
              go_simp
              all_goals with_reducible rfl
            try simp only [Act.put]
            refine wpAnyH_ready (rs := [11]) (by kernel_rfl) (by simp) ?_
            refine AllReadyH.cons (o := ⟨none, .store 45 (.tmp 77) (.tmp 76), 0, "more.go:24", #[⟨10, .data⟩, ⟨9, .data⟩, ⟨9, .chain⟩, ⟨0, .phase⟩, ⟨1, .phase⟩, ⟨2, .phase⟩, ⟨3, .phase⟩, ⟨4, .phase⟩, ⟨5, .phase⟩, ⟨6, .phase⟩, ⟨7, .phase⟩, ⟨8, .phase⟩, ⟨9, .phase⟩], none⟩) rfl (fun K hK => ?_) AllReadyH.nil
            refine step_store_off (by rfl) rfl [.slice A55 (0 + r.df.length + 1) c56] rfl rfl rfl (by kernel_rfl) (by simp [Value.oneCell']) h54.three (by simp) (new := #[.string r.n, .bool r.au, .slice A2 r.im.length c2, .slice A55 (0 + r.df.length + 1) c56]) rfl ?_
            intro wa57 h58
            refine hK.out _ _ ?_ (fun hHeld => ?_)
            · exact ⟨(four h58).cell 3 rfl, HCd.out _ h58.below⟩
            clear hK K
            try simp only [Act.put]
            refine wpAnyH_done (by kernel_rfl) ?_ _
            go_wp2_with fail
            go_meet
            rw [Nat.zero_add] at h58
            exact ⟨_, _, _, h58.three.drop, Reps.snoc HXd.out.1 HD0.out.1 rfl⟩
        · go_simp
          have F59 := (alloc_at (n := wb.heap.size) H8.out (.cells #[.string d.n, .int .i64 d.t.k, .string d.t.n, .int .i64 d.t.c.f0, .int .i64 d.t.c.f1, .int .i64 d.t.c.f2, .bool d.t.c.f3, .bool d.t.c.f4, .slice A7 d.t.c.f5.length c7, .bool d.t.e, .string d.t.fr, .slice A10 d.t.ns.length c10, .slice A11 d.t.mo.length c11, .slice A12 d.t.ps.length c12, .slice A13 d.t.ad.length c13, .slice A14 d.t.el.length c14] 59) rfl).drew
          refine hK.out _ _ ?_ (fun hHeld => ?_)
          · exact ⟨F59.three.cell 3 rfl, HCd.out _ F59.below⟩
          clear hK K
          try simp only [Act.put]
          refine wpAnyH_ready (rs := [0]) (by kernel_rfl) (by simp) ?_
          refine AllReadyH.cons (o := ⟨some 67, .buildSlice 45 0 #[], 45, "more.go:24", #[], none⟩) rfl (fun K hK => ?_) AllReadyH.nil
          go_simp
          have F60 := (made0 (e := 59) (size := 16) (n := wb.heap.size + 1) (alloc_at (n := wb.heap.size) H8.out (.cells #[.string d.n, .int .i64 d.t.k, .string d.t.n, .int .i64 d.t.c.f0, .int .i64 d.t.c.f1, .int .i64 d.t.c.f2, .bool d.t.c.f3, .bool d.t.c.f4, .slice A7 d.t.c.f5.length c7, .bool d.t.e, .string d.t.fr, .slice A10 d.t.ns.length c10, .slice A11 d.t.mo.length c11, .slice A12 d.t.ps.length c12, .slice A13 d.t.ad.length c13, .slice A14 d.t.el.length c14] 59) rfl) (by simp)).drew
          refine hK.out _ _ ?_ (fun hHeld => ?_)
          · exact ⟨(four F60).cell 3 rfl, HCd.out _ F60.below⟩
          clear hK K
          try simp only [Act.put]
          refine wpAnyH_ready (rs := [3]) (by kernel_rfl) (by simp) ?_
          refine AllReadyH.cons (o := ⟨some 70, .call { callee := .builtin .append, args := #[.tmp 67, .tmp 69], argTypes := #[45, 45] }, 45, "more.go:24", #[⟨0, .data⟩, ⟨2, .data⟩], none⟩) rfl (fun K hK => ?_) AllReadyH.nil
          refine step_app (by rfl) _ _ Try.underlying45 info_dfs rfl (by decide) (by rfl) _ (0) ([]) (by rfl) F60 (by rfl) HXd.out.2.1 (fun j u hu => by
              obtain ⟨ad', e, hc⟩ := HXd.out.2.2.1 j u hu
              exact ⟨ad', e, pw_cell_below F60.below hc⟩) HXd.out.2.2.2 (by simp only [maxLen]; omega) (by omega) ?_
          intro v61 wa62 h63
          refine hK.out _ _ ?_ (fun hHeld => ?_)
          · exact ⟨(four h63).cell 3 rfl, HCd.out _ h63.below⟩
          clear hK K
          try simp only [Act.put]
          refine wpAnyH_ready (rs := [9]) (by kernel_rfl) (by simp) ?_
          refine AllReadyH.cons (o := ⟨some 76, .call { callee := .builtin .append, args := #[.tmp 70, .tmp 75], argTypes := #[45, 45] }, 45, "more.go:24", #[⟨3, .data⟩, ⟨8, .data⟩, ⟨3, .chain⟩], none⟩) rfl (fun K hK => ?_) AllReadyH.nil
          refine step_app (by rfl) _ _ Try.underlying45 info_dfs rfl (by decide) (by rfl) _ (0 + r.df.length) ([] ++ xd) (by rfl) h63 (by rfl) rfl (fun j u hu => ⟨_, rfl, by rw [Sep.add_plain]; exact h63.two.cell j (by simpa using hu)⟩) (by simp [Value.oneCell']) (by simp only [maxLen]; omega) (by omega) ?_
          intro v64 wa65 h66
          obtain ⟨-, A67, c68, rfl, -⟩ := id h66.reads
          refine hK.out _ _ ?_ (fun hHeld => ?_)
          · exact ⟨(four h66).cell 3 rfl, HCd.out _ h66.below⟩
          clear hK K
          try simp only [Act.put]
          refine wpAnyH_take (i := 10) (oi := ⟨some 77, .fieldAddr 47 (.tmp 11) 3, 0, "more.go:24", #[⟨0, .phase⟩, ⟨1, .phase⟩, ⟨2, .phase⟩, ⟨3, .phase⟩, ⟨4, .phase⟩, ⟨5, .phase⟩, ⟨6, .phase⟩, ⟨7, .phase⟩, ⟨8, .phase⟩, ⟨9, .phase⟩], none⟩) (v := ?_) rfl (by kernel_rfl) (by kernel_rfl) (by kernel_rfl) (fun _ _ _ h => h) (Or.inl ⟨by rfl, ?_⟩) (by assumption) ?_
          rotate_left 1
          · intro w hSw
            try dsimp only at hSw
            go_simp
            all_goals with_reducible rfl
          try simp only [Act.put]
          refine wpAnyH_ready (rs := [11]) (by kernel_rfl) (by simp) ?_
          refine AllReadyH.cons (o := ⟨none, .store 45 (.tmp 77) (.tmp 76), 0, "more.go:24", #[⟨10, .data⟩, ⟨9, .data⟩, ⟨9, .chain⟩, ⟨0, .phase⟩, ⟨1, .phase⟩, ⟨2, .phase⟩, ⟨3, .phase⟩, ⟨4, .phase⟩, ⟨5, .phase⟩, ⟨6, .phase⟩, ⟨7, .phase⟩, ⟨8, .phase⟩, ⟨9, .phase⟩], none⟩) rfl (fun K hK => ?_) AllReadyH.nil
          refine step_store_off (by rfl) rfl [.slice A67 (0 + r.df.length + 1) c68] rfl rfl rfl (by kernel_rfl) (by simp [Value.oneCell']) h66.three (by simp) (new := #[.string r.n, .bool r.au, .slice A2 r.im.length c2, .slice A67 (0 + r.df.length + 1) c68]) rfl ?_
          intro wa69 h70
          refine hK.out _ _ ?_ (fun hHeld => ?_)
          · exact ⟨(four h70).cell 3 rfl, HCd.out _ h70.below⟩
          clear hK K
          try simp only [Act.put]
          refine wpAnyH_done (by kernel_rfl) ?_ _
          go_wp2_with fail
          go_meet
          rw [Nat.zero_add] at h70
          exact ⟨_, _, _, h70.three.drop, Reps.snoc HXd.out.1 HD0.out.1 rfl⟩
      case rest =>
        obtain ⟨Ad, cd, xe, hc, hRe⟩ := hcut
        have H9 := Lib.hid hc
        have HRe := Lib.hid hRe
        clear hc hRe H8 y3 y4 HCd
        have zn : r.n.size ≤ M := HM.out.2.2.2.1.1
        have zq : (9223372036854775807 < r.n.size + 1) = False := eq_false (by unfold M at zn; omega)
        clear zn
        go_upto_region 13 with fail
        try simp only [Act.put]
        go_cut [12, 13] from 78 to 94 (fun s12 s13 wx => (∃ A n c, s12 = .slice A n c) ∧ (∃ r1, s13 = .int .i64 r1 ∧ Hid (r1 = 7 ∨ r1 = 1)) ∧ S w0 wx (Blk g2 (.cells #[.string r.n, .bool r.au, .slice A2 r.im.length c2, .slice Ad (r.df.length + 1) cd] 47) • (RowV 59 16 (.slice Ad (r.df.length + 1) cd) (r.df.length + 1) xe • (Blk g (.cells #[.string r.n, .bool r.au, .slice A2 r.im.length c2, .slice (some ad3) r.df.length c3] 47) • R))))
        case first =>
          refine wp_region_held_drew (S := fun W => W.cell? ⟨g, 0, none⟩ = some (.string r.n)) (by kernel_rfl) ?_ (fun hHeld => ?_)
          · exact H9.out.three.cell 0 rfl
          refine wpAnyH_take (i := 1) (oi := ⟨some 80, .move (.tmp 0), 39, "more.go:25", #[], none⟩) (v := ?_) rfl (by kernel_rfl) (by kernel_rfl) (by kernel_rfl) (fun _ _ _ h => h) (Or.inl ⟨by rfl, ?_⟩) (by assumption) ?_
          rotate_left 1
          · intro w hSw
            try dsimp only at hSw
            go_simp
            all_goals with_reducible rfl
          try simp only [Act.put]
          refine wpAnyH_take (i := 3) (oi := ⟨some 82, .fieldAddr 47 (.tmp 8) 0, 0, "more.go:25", #[], none⟩) (v := ?_) rfl (by kernel_rfl) (by kernel_rfl) (by kernel_rfl) (fun _ _ _ h => h) (Or.inl ⟨by rfl, ?_⟩) (by assumption) ?_
          rotate_left 1
          · intro w hSw
            try dsimp only at hSw
            go_simp
            all_goals with_reducible rfl
          try simp only [Act.put]
          refine wpAnyH_take (i := 4) (oi := ⟨some 83, .load 9 (.tmp 82), 9, "more.go:25", #[⟨3, .data⟩], none⟩) (v := ?_) rfl (by kernel_rfl) (by kernel_rfl) (by kernel_rfl) (fun _ _ _ h => h) (Or.inl ⟨by rfl, ?_⟩) (by assumption) ?_
          rotate_left 1
          · intro w hSw
            try dsimp only at hSw
            go_simp
            all_goals with_reducible rfl
          try simp only [Act.put]
          refine wpAnyH_take (i := 5) (oi := ⟨some 84, .binOp .add 9 (.tmp 83) (.const (.string { data := #[113] })) 9, 9, "more.go:25", #[⟨4, .data⟩], none⟩) (v := ?_) rfl (by kernel_rfl) (by kernel_rfl) (by kernel_rfl) (fun _ _ _ h => h) (Or.inl ⟨by rfl, ?_⟩) (by assumption) ?_
          rotate_left 1
          · intro w hSw
            try dsimp only at hSw
            go_simp
            all_goals with_reducible rfl
          try simp only [Act.put]
          refine wpAnyH_ready (rs := [0, 6]) (by kernel_rfl) (by simp) ?_
          refine AllReadyH.cons (o := ⟨some 79, .buildSlice 39 0 #[], 39, "more.go:25", #[], none⟩) rfl (fun K hK => ?_) (AllReadyH.cons (o := ⟨some 85, .buildSlice 51 2 #[(0, .const (.string { data := #[97] })), (1, .const (.string { data := #[97] }))], 51, "more.go:25", #[], none⟩) rfl (fun K hK => ?_) AllReadyH.nil)
          · go_simp
            have F71 := (made0 (e := 47) (size := 4) (n := wc.heap.size) H9.out rfl).drew
            refine hK.out _ _ ?_ (fun hHeld => ?_)
            · exact (four F71).cell 0 rfl
            clear hK K
            try simp only [Act.put]
            refine wpAnyH_ready (rs := [2, 6]) (by kernel_rfl) (by simp) ?_
            refine AllReadyH.cons (o := ⟨some 81, .call { callee := .builtin .append, args := #[.tmp 79, .tmp 80], argTypes := #[39, 39] }, 39, "more.go:25", #[⟨0, .data⟩, ⟨1, .data⟩], none⟩) rfl (fun K hK => ?_) (AllReadyH.cons (o := ⟨some 85, .buildSlice 51 2 #[(0, .const (.string { data := #[97] })), (1, .const (.string { data := #[97] }))], 51, "more.go:25", #[], none⟩) rfl (fun K hK => ?_) AllReadyH.nil)
            · refine step_app (by rfl) _ _ Try.underlying39 info_mds rfl (by decide) (by rfl) _ (0) ([]) (by rfl) F71 (by rfl) HX.out.2.1 (fun j u hu => by
                  obtain ⟨ad', e, hc⟩ := HX.out.2.2.1 j u hu
                  exact ⟨ad', e, pw_cell_below F71.below hc⟩) HX.out.2.2.2 (by simp only [maxLen]; omega) (by omega) ?_
              intro v72 wa73 h74
              refine hK.out _ _ ?_ (fun hHeld => ?_)
              · exact (four h74).cell 0 rfl
              clear hK K
              try simp only [Act.put]
              refine wpAnyH_ready (rs := [6]) (by kernel_rfl) (by simp) ?_
              refine AllReadyH.cons (o := ⟨some 85, .buildSlice 51 2 #[(0, .const (.string { data := #[97] })), (1, .const (.string { data := #[97] }))], 51, "more.go:25", #[], none⟩) rfl (fun K hK => ?_) AllReadyH.nil
              go_simp
              have F75 := (alloc_at (n := wa73.heap.size) h74 (.cells #[.string ⟨#[97]⟩, .string ⟨#[97]⟩] 9) rfl)
              refine hK.out _ _ ?_ (fun hHeld => ?_)
              · exact (five F75).cell 0 rfl
              clear hK K
              try simp only [Act.put]
              refine wpAnyH_take (i := 7) (oi := ⟨some 86, .build 55 #[(0, .const (.int .i64 3)), (5, .tmp 85)], 55, "more.go:25", #[⟨6, .data⟩], none⟩) (v := ?_) rfl (by kernel_rfl) (by kernel_rfl) (by kernel_rfl) (fun _ _ _ h => h) (Or.inl ⟨by rfl, ?_⟩) (by assumption) ?_
              rotate_left 1
              · intro w hSw
                try dsimp only at hSw
                go_simp
                all_goals with_reducible rfl
              try simp only [Act.put]
              refine wpAnyH_take (i := 8) (oi := ⟨some 87, .build 59 #[(0, .const (.string { data := #[65] })), (1, .tmp 86)], 59, "more.go:25", #[⟨7, .data⟩], none⟩) (v := ?_) rfl (by kernel_rfl) (by kernel_rfl) (by kernel_rfl) (fun _ _ _ h => h) (Or.inl ⟨by rfl, ?_⟩) (by assumption) ?_
              rotate_left 1
              · intro w hSw
                try dsimp only at hSw
                go_simp
                all_goals with_reducible rfl
              try simp only [Act.put]
              refine wpAnyH_ready (rs := [9]) (by kernel_rfl) (by simp) ?_
              refine AllReadyH.cons (o := ⟨some 88, .buildSlice 45 1 #[(0, .tmp 87)], 45, "more.go:25", #[⟨8, .data⟩], none⟩) rfl (fun K hK => ?_) AllReadyH.nil
              go_simp
              have F76 := (alloc_at (n := wa73.heap.size + 1) (alloc_at (n := wa73.heap.size) h74 (.cells #[.string ⟨#[97]⟩, .string ⟨#[97]⟩] 9) rfl) (.cells #[.string ⟨#[65]⟩, .int .i64 3, .string ⟨#[]⟩, .int .i64 0, .int .i64 0, .int .i64 0, .bool false, .bool false, .slice none 0 0, .bool false, .string ⟨#[]⟩, .slice (some ⟨wa73.heap.size, 0, none⟩) 2 2, .slice none 0 0, .slice none 0 0, .slice none 0 0, .slice none 0 0] 59) (by simp))
              refine hK.out _ _ ?_ (fun hHeld => ?_)
              · exact (six F76).cell 0 rfl
              clear hK K
              try simp only [Act.put]
              refine wpAnyH_take (i := 10) (oi := ⟨some 89, .build 47 #[(0, .tmp 84), (3, .tmp 88)], 47, "more.go:25", #[⟨5, .data⟩, ⟨9, .data⟩], none⟩) (v := ?_) rfl (by kernel_rfl) (by kernel_rfl) (by kernel_rfl) (fun _ _ _ h => h) (Or.inl ⟨by rfl, ?_⟩) (by assumption) ?_
              rotate_left 1
              · intro w hSw
                try dsimp only at hSw
                go_simp
                all_goals with_reducible rfl
              try simp only [Act.put]
              refine wpAnyH_ready (rs := [11]) (by kernel_rfl) (by simp) ?_
              refine AllReadyH.cons (o := ⟨some 90, .buildSlice 39 1 #[(0, .tmp 89)], 39, "more.go:25", #[⟨10, .data⟩], none⟩) rfl (fun K hK => ?_) AllReadyH.nil
              go_simp
              have F77 := (alloc_at (n := wa73.heap.size + 2) (alloc_at (n := wa73.heap.size + 1) (alloc_at (n := wa73.heap.size) h74 (.cells #[.string ⟨#[97]⟩, .string ⟨#[97]⟩] 9) rfl) (.cells #[.string ⟨#[65]⟩, .int .i64 3, .string ⟨#[]⟩, .int .i64 0, .int .i64 0, .int .i64 0, .bool false, .bool false, .slice none 0 0, .bool false, .string ⟨#[]⟩, .slice (some ⟨wa73.heap.size, 0, none⟩) 2 2, .slice none 0 0, .slice none 0 0, .slice none 0 0, .slice none 0 0] 59) (by simp)) (.cells #[.string (r.n ++ ⟨#[113]⟩), .bool false, .slice none 0 0, .slice (some ⟨wa73.heap.size + 1, 0, none⟩) 1 1] 47) (by simp))
              refine hK.out _ _ ?_ (fun hHeld => ?_)
              · exact (seven F77).cell 0 rfl
              clear hK K
              try simp only [Act.put]
              refine wpAnyH_ready (rs := [12]) (by kernel_rfl) (by simp) ?_
              refine AllReadyH.cons (o := ⟨some 91, .call { callee := .builtin .append, args := #[.tmp 81, .tmp 90], argTypes := #[39, 39] }, 39, "more.go:25", #[⟨2, .data⟩, ⟨11, .data⟩, ⟨2, .chain⟩], none⟩) rfl (fun K hK => ?_) AllReadyH.nil
              refine step_app (by rfl) _ _ Try.underlying39 info_mds rfl (by decide) (by rfl) _ (0 + l.length) ([] ++ xa) (by rfl) (four F77) (by rfl) rfl (fun j u hu => ⟨_, rfl, by rw [Sep.add_plain]; exact F77.cell j (by simpa using hu)⟩) (by simp [Value.oneCell']) (by simp only [maxLen]; omega) (by omega) ?_
              intro v78 wa79 h80
              refine hK.out _ _ ?_ (fun hHeld => ?_)
              · exact (seven h80).cell 0 rfl
              clear hK K
              try simp only [Act.put]
              refine wpAnyH_ready (rs := [13]) (by kernel_rfl) (by simp) ?_
              refine AllReadyH.cons (o := ⟨some 92, .call { callee := .value (.func 19), args := #[.tmp 91], argTypes := #[39] }, 42, "more.go:25", #[⟨12, .data⟩, ⟨12, .chain⟩], none⟩) rfl (fun K hK => ?_) AllReadyH.nil
              go_simp
              have hRl := Reps.snoc (HX.out.1.imp_ fun _ _ hp => kMd.K_below h80.below hp) (aa_K (s := r.n) (four h80).block h80.three.block) rfl
              obtain ⟨A81, c82, rfl, hCl⟩ := row_C (d := kMd) (l := l ++ [aaM r.n]) (by decide) (by simp) h80 hRl
              refine (resolve_at A81 c82 (l ++ [aaM r.n]) h80 hCl (fun m hm => by
                rcases List.mem_append.1 hm with hm | hm
                · exact HA.out.2 m hm
                · rw [List.mem_singleton.1 hm]; exact aa_o (HNQ.out r HM.out.2.2.2.2))).mono ?_
              rintro e wr83 ⟨Ax, nx, cx, xx, he, -, -, h84⟩
              subst he
              have HQ := Lib.hid (res_aa l r.n)
              generalize (resP (l ++ [aaM r.n])).1 = r1 at HQ ⊢
              refine hK.out _ _ ?_ (fun hHeld => ?_)
              · exact ((h84.drop.drop.drop.drop.drop.drop).three).cell 0 rfl
              clear hK K
              try simp only [Act.put]
              refine wpAnyH_take (i := 14) (oi := ⟨some 78, .move (.tmp 92), 42, "more.go:25", #[⟨13, .data⟩], none⟩) (v := ?_) rfl (by kernel_rfl) (by kernel_rfl) (by kernel_rfl) (fun _ _ _ h => h) (Or.inl ⟨by rfl, ?_⟩) (by assumption) ?_
              rotate_left 1
              · intro w hSw
                try dsimp only at hSw
                go_simp
                all_goals with_reducible rfl
              try simp only [Act.put]
              refine wpAnyH_take (i := 15) (oi := ⟨some 93, .extract (.tmp 78) 0, 41, "more.go:25", #[⟨14, .data⟩], none⟩) (v := ?_) rfl (by kernel_rfl) (by kernel_rfl) (by kernel_rfl) (fun _ _ _ h => h) (Or.inl ⟨by rfl, ?_⟩) (by assumption) ?_
              rotate_left 1
              · intro w hSw
                try dsimp only at hSw
                go_simp
                all_goals with_reducible rfl
              try simp only [Act.put]
              refine wpAnyH_take (i := 16) (oi := ⟨some 94, .extract (.tmp 78) 1, 25, "more.go:25", #[⟨14, .data⟩, { on := 17, ground := Ground.gcOnly Departure.lateStores }], none⟩) (v := ?_) rfl (by kernel_rfl) (by kernel_rfl) (by kernel_rfl) (fun _ _ _ h => h) (Or.inl ⟨by rfl, ?_⟩) (by assumption) ?_
              rotate_left 1
              · intro w hSw
                try dsimp only at hSw
                go_simp
                all_goals with_reducible rfl
              try simp only [Act.put]
              refine wpAnyH_take (i := 17) (oi := ⟨some 12, .assign (.tmp 93), 41, "more.go:25", #[⟨15, .data⟩, ⟨13, .chain⟩, ⟨0, .phase⟩, ⟨1, .phase⟩, ⟨2, .phase⟩, ⟨3, .phase⟩, ⟨4, .phase⟩, ⟨5, .phase⟩, ⟨6, .phase⟩, ⟨7, .phase⟩, ⟨8, .phase⟩, ⟨9, .phase⟩, ⟨10, .phase⟩, ⟨11, .phase⟩, ⟨12, .phase⟩, ⟨13, .phase⟩, ⟨14, .phase⟩, ⟨15, .phase⟩, { on := 16, ground := Ground.textOnly Departure.lateStores }], none⟩) (v := ?_) rfl (by kernel_rfl) (by kernel_rfl) (by kernel_rfl) (fun _ _ _ h => h) (Or.inl ⟨by rfl, ?_⟩) (by assumption) ?_
              rotate_left 1
              · intro w hSw
                try dsimp only at hSw
                go_simp
                all_goals with_reducible rfl
              try simp only [Act.put]
              refine wpAnyH_take (i := 18) (oi := ⟨some 13, .assign (.tmp 94), 25, "more.go:25", #[⟨16, .data⟩, ⟨17, .chain⟩, ⟨0, .phase⟩, ⟨1, .phase⟩, ⟨2, .phase⟩, ⟨3, .phase⟩, ⟨4, .phase⟩, ⟨5, .phase⟩, ⟨6, .phase⟩, ⟨7, .phase⟩, ⟨8, .phase⟩, ⟨9, .phase⟩, ⟨10, .phase⟩, ⟨11, .phase⟩, ⟨12, .phase⟩, ⟨13, .phase⟩, ⟨14, .phase⟩, ⟨15, .phase⟩, ⟨16, .phase⟩, ⟨17, .phase⟩], none⟩) (v := ?_) rfl (by kernel_rfl) (by kernel_rfl) (by kernel_rfl) (fun _ _ _ h => h) (Or.inl ⟨by rfl, ?_⟩) (by assumption) ?_
              rotate_left 1
              · intro w hSw
                try dsimp only at hSw
                go_simp
                all_goals with_reducible rfl
              try simp only [Act.put]
              refine wpAnyH_done (by kernel_rfl) ?_ _
              go_wp2_with fail
              go_meet
              exact ⟨⟨_, _, _, rfl⟩, ⟨_, rfl, HQ⟩, h84.drop.drop.drop.drop.drop.drop⟩
            · go_simp
              have F85 := (alloc_at (n := wc.heap.size + 1) (made0 (e := 47) (size := 4) (n := wc.heap.size) H9.out rfl) (.cells #[.string ⟨#[97]⟩, .string ⟨#[97]⟩] 9) (by simp)).drew
              refine hK.out _ _ ?_ (fun hHeld => ?_)
              · exact (five F85).cell 0 rfl
              clear hK K
              try simp only [Act.put]
              refine wpAnyH_take (i := 7) (oi := ⟨some 86, .build 55 #[(0, .const (.int .i64 3)), (5, .tmp 85)], 55, "more.go:25", #[⟨6, .data⟩], none⟩) (v := ?_) rfl (by kernel_rfl) (by kernel_rfl) (by kernel_rfl) (fun _ _ _ h => h) (Or.inl ⟨by rfl, ?_⟩) (by assumption) ?_
              rotate_left 1
              · intro w hSw
                try dsimp only at hSw
                go_simp
                all_goals with_reducible rfl
              try simp only [Act.put]
              refine wpAnyH_take (i := 8) (oi := ⟨some 87, .build 59 #[(0, .const (.string { data := #[65] })), (1, .tmp 86)], 59, "more.go:25", #[⟨7, .data⟩], none⟩) (v := ?_) rfl (by kernel_rfl) (by kernel_rfl) (by kernel_rfl) (fun _ _ _ h => h) (Or.inl ⟨by rfl, ?_⟩) (by assumption) ?_
              rotate_left 1
              · intro w hSw
                try dsimp only at hSw
                go_simp
                all_goals with_reducible rfl
              try simp only [Act.put]
              refine wpAnyH_ready (rs := [2, 9]) (by kernel_rfl) (by simp) ?_
              refine AllReadyH.cons (o := ⟨some 81, .call { callee := .builtin .append, args := #[.tmp 79, .tmp 80], argTypes := #[39, 39] }, 39, "more.go:25", #[⟨0, .data⟩, ⟨1, .data⟩], none⟩) rfl (fun K hK => ?_) (AllReadyH.cons (o := ⟨some 88, .buildSlice 45 1 #[(0, .tmp 87)], 45, "more.go:25", #[⟨8, .data⟩], none⟩) rfl (fun K hK => ?_) AllReadyH.nil)
              · refine step_app (by rfl) _ _ Try.underlying39 info_mds rfl (by decide) (by rfl) _ (0) ([]) (by rfl) F85.two (by rfl) HX.out.2.1 (fun j u hu => by
                    obtain ⟨ad', e, hc⟩ := HX.out.2.2.1 j u hu
                    exact ⟨ad', e, pw_cell_below F85.below hc⟩) HX.out.2.2.2 (by simp only [maxLen]; omega) (by omega) ?_
                intro v86 wa87 h88
                refine hK.out _ _ ?_ (fun hHeld => ?_)
                · exact (five h88).cell 0 rfl
                clear hK K
                try simp only [Act.put]
                refine wpAnyH_ready (rs := [9]) (by kernel_rfl) (by simp) ?_
                refine AllReadyH.cons (o := ⟨some 88, .buildSlice 45 1 #[(0, .tmp 87)], 45, "more.go:25", #[⟨8, .data⟩], none⟩) rfl (fun K hK => ?_) AllReadyH.nil
                go_simp
                have F89 := (alloc_at (n := wa87.heap.size) h88 (.cells #[.string ⟨#[65]⟩, .int .i64 3, .string ⟨#[]⟩, .int .i64 0, .int .i64 0, .int .i64 0, .bool false, .bool false, .slice none 0 0, .bool false, .string ⟨#[]⟩, .slice (some ⟨wc.heap.size + 1, 0, none⟩) 2 2, .slice none 0 0, .slice none 0 0, .slice none 0 0, .slice none 0 0] 59) rfl)
                refine hK.out _ _ ?_ (fun hHeld => ?_)
                · exact (six F89).cell 0 rfl
                clear hK K
                try simp only [Act.put]
                refine wpAnyH_take (i := 10) (oi := ⟨some 89, .build 47 #[(0, .tmp 84), (3, .tmp 88)], 47, "more.go:25", #[⟨5, .data⟩, ⟨9, .data⟩], none⟩) (v := ?_) rfl (by kernel_rfl) (by kernel_rfl) (by kernel_rfl) (fun _ _ _ h => h) (Or.inl ⟨by rfl, ?_⟩) (by assumption) ?_
                rotate_left 1
                · intro w hSw
                  try dsimp only at hSw
                  go_simp
                  all_goals with_reducible rfl
                try simp only [Act.put]
                refine wpAnyH_ready (rs := [11]) (by kernel_rfl) (by simp) ?_
                refine AllReadyH.cons (o := ⟨some 90, .buildSlice 39 1 #[(0, .tmp 89)], 39, "more.go:25", #[⟨10, .data⟩], none⟩) rfl (fun K hK => ?_) AllReadyH.nil
                go_simp
                have F90 := (alloc_at (n := wa87.heap.size + 1) (alloc_at (n := wa87.heap.size) h88 (.cells #[.string ⟨#[65]⟩, .int .i64 3, .string ⟨#[]⟩, .int .i64 0, .int .i64 0, .int .i64 0, .bool false, .bool false, .slice none 0 0, .bool false, .string ⟨#[]⟩, .slice (some ⟨wc.heap.size + 1, 0, none⟩) 2 2, .slice none 0 0, .slice none 0 0, .slice none 0 0, .slice none 0 0] 59) rfl) (.cells #[.string (r.n ++ ⟨#[113]⟩), .bool false, .slice none 0 0, .slice (some ⟨wa87.heap.size, 0, none⟩) 1 1] 47) (by simp))
                refine hK.out _ _ ?_ (fun hHeld => ?_)
                · exact (seven F90).cell 0 rfl
                clear hK K
                try simp only [Act.put]
                refine wpAnyH_ready (rs := [12]) (by kernel_rfl) (by simp) ?_
                refine AllReadyH.cons (o := ⟨some 91, .call { callee := .builtin .append, args := #[.tmp 81, .tmp 90], argTypes := #[39, 39] }, 39, "more.go:25", #[⟨2, .data⟩, ⟨11, .data⟩, ⟨2, .chain⟩], none⟩) rfl (fun K hK => ?_) AllReadyH.nil
                refine step_app (by rfl) _ _ Try.underlying39 info_mds rfl (by decide) (by rfl) _ (0 + l.length) ([] ++ xa) (by rfl) F90.three (by rfl) rfl (fun j u hu => ⟨_, rfl, by rw [Sep.add_plain]; exact F90.cell j (by simpa using hu)⟩) (by simp [Value.oneCell']) (by simp only [maxLen]; omega) (by omega) ?_
                intro v91 wa92 h93
                refine hK.out _ _ ?_ (fun hHeld => ?_)
                · exact (seven h93).cell 0 rfl
                clear hK K
                try simp only [Act.put]
                refine wpAnyH_ready (rs := [13]) (by kernel_rfl) (by simp) ?_
                refine AllReadyH.cons (o := ⟨some 92, .call { callee := .value (.func 19), args := #[.tmp 91], argTypes := #[39] }, 42, "more.go:25", #[⟨12, .data⟩, ⟨12, .chain⟩], none⟩) rfl (fun K hK => ?_) AllReadyH.nil
                go_simp
                have hRl := Reps.snoc (HX.out.1.imp_ fun _ _ hp => kMd.K_below h93.below hp) (aa_K (s := r.n) (four h93).block h93.three.block) rfl
                obtain ⟨A94, c95, rfl, hCl⟩ := row_C (d := kMd) (l := l ++ [aaM r.n]) (by decide) (by simp) h93 hRl
                refine (resolve_at A94 c95 (l ++ [aaM r.n]) h93 hCl (fun m hm => by
                  rcases List.mem_append.1 hm with hm | hm
                  · exact HA.out.2 m hm
                  · rw [List.mem_singleton.1 hm]; exact aa_o (HNQ.out r HM.out.2.2.2.2))).mono ?_
                rintro e wr96 ⟨Ax, nx, cx, xx, he, -, -, h97⟩
                subst he
                have HQ := Lib.hid (res_aa l r.n)
                generalize (resP (l ++ [aaM r.n])).1 = r1 at HQ ⊢
                refine hK.out _ _ ?_ (fun hHeld => ?_)
                · exact ((h97.drop.drop.drop.drop.drop.drop).three).cell 0 rfl
                clear hK K
                try simp only [Act.put]
                refine wpAnyH_take (i := 14) (oi := ⟨some 78, .move (.tmp 92), 42, "more.go:25", #[⟨13, .data⟩], none⟩) (v := ?_) rfl (by kernel_rfl) (by kernel_rfl) (by kernel_rfl) (fun _ _ _ h => h) (Or.inl ⟨by rfl, ?_⟩) (by assumption) ?_
                rotate_left 1
                · intro w hSw
                  try dsimp only at hSw
                  go_simp
                  all_goals with_reducible rfl
                try simp only [Act.put]
                refine wpAnyH_take (i := 15) (oi := ⟨some 93, .extract (.tmp 78) 0, 41, "more.go:25", #[⟨14, .data⟩], none⟩) (v := ?_) rfl (by kernel_rfl) (by kernel_rfl) (by kernel_rfl) (fun _ _ _ h => h) (Or.inl ⟨by rfl, ?_⟩) (by assumption) ?_
                rotate_left 1
                · intro w hSw
                  try dsimp only at hSw
                  go_simp
                  all_goals with_reducible rfl
                try simp only [Act.put]
                refine wpAnyH_take (i := 16) (oi := ⟨some 94, .extract (.tmp 78) 1, 25, "more.go:25", #[⟨14, .data⟩, { on := 17, ground := Ground.gcOnly Departure.lateStores }], none⟩) (v := ?_) rfl (by kernel_rfl) (by kernel_rfl) (by kernel_rfl) (fun _ _ _ h => h) (Or.inl ⟨by rfl, ?_⟩) (by assumption) ?_
                rotate_left 1
                · intro w hSw
                  try dsimp only at hSw
                  go_simp
                  all_goals with_reducible rfl
                try simp only [Act.put]
                refine wpAnyH_take (i := 17) (oi := ⟨some 12, .assign (.tmp 93), 41, "more.go:25", #[⟨15, .data⟩, ⟨13, .chain⟩, ⟨0, .phase⟩, ⟨1, .phase⟩, ⟨2, .phase⟩, ⟨3, .phase⟩, ⟨4, .phase⟩, ⟨5, .phase⟩, ⟨6, .phase⟩, ⟨7, .phase⟩, ⟨8, .phase⟩, ⟨9, .phase⟩, ⟨10, .phase⟩, ⟨11, .phase⟩, ⟨12, .phase⟩, ⟨13, .phase⟩, ⟨14, .phase⟩, ⟨15, .phase⟩, { on := 16, ground := Ground.textOnly Departure.lateStores }], none⟩) (v := ?_) rfl (by kernel_rfl) (by kernel_rfl) (by kernel_rfl) (fun _ _ _ h => h) (Or.inl ⟨by rfl, ?_⟩) (by assumption) ?_
                rotate_left 1
                · intro w hSw
                  try dsimp only at hSw
                  go_simp
                  all_goals with_reducible rfl
                try simp only [Act.put]
                refine wpAnyH_take (i := 18) (oi := ⟨some 13, .assign (.tmp 94), 25, "more.go:25", #[⟨16, .data⟩, ⟨17, .chain⟩, ⟨0, .phase⟩, ⟨1, .phase⟩, ⟨2, .phase⟩, ⟨3, .phase⟩, ⟨4, .phase⟩, ⟨5, .phase⟩, ⟨6, .phase⟩, ⟨7, .phase⟩, ⟨8, .phase⟩, ⟨9, .phase⟩, ⟨10, .phase⟩, ⟨11, .phase⟩, ⟨12, .phase⟩, ⟨13, .phase⟩, ⟨14, .phase⟩, ⟨15, .phase⟩, ⟨16, .phase⟩, ⟨17, .phase⟩], none⟩) (v := ?_) rfl (by kernel_rfl) (by kernel_rfl) (by kernel_rfl) (fun _ _ _ h => h) (Or.inl ⟨by rfl, ?_⟩) (by assumption) ?_
                rotate_left 1
                · intro w hSw
                  try dsimp only at hSw
                  go_simp
                  all_goals with_reducible rfl
                try simp only [Act.put]
                refine wpAnyH_done (by kernel_rfl) ?_ _
                go_wp2_with fail
                go_meet
                exact ⟨⟨_, _, _, rfl⟩, ⟨_, rfl, HQ⟩, h97.drop.drop.drop.drop.drop.drop⟩
              · go_simp
                have F98 := (alloc_at (n := wc.heap.size + 2) (alloc_at (n := wc.heap.size + 1) (made0 (e := 47) (size := 4) (n := wc.heap.size) H9.out rfl) (.cells #[.string ⟨#[97]⟩, .string ⟨#[97]⟩] 9) (by simp)) (.cells #[.string ⟨#[65]⟩, .int .i64 3, .string ⟨#[]⟩, .int .i64 0, .int .i64 0, .int .i64 0, .bool false, .bool false, .slice none 0 0, .bool false, .string ⟨#[]⟩, .slice (some ⟨wc.heap.size + 1, 0, none⟩) 2 2, .slice none 0 0, .slice none 0 0, .slice none 0 0, .slice none 0 0] 59) (by simp)).drew
                refine hK.out _ _ ?_ (fun hHeld => ?_)
                · exact (six F98).cell 0 rfl
                clear hK K
                try simp only [Act.put]
                refine wpAnyH_take (i := 10) (oi := ⟨some 89, .build 47 #[(0, .tmp 84), (3, .tmp 88)], 47, "more.go:25", #[⟨5, .data⟩, ⟨9, .data⟩], none⟩) (v := ?_) rfl (by kernel_rfl) (by kernel_rfl) (by kernel_rfl) (fun _ _ _ h => h) (Or.inl ⟨by rfl, ?_⟩) (by assumption) ?_
                rotate_left 1
                · intro w hSw
                  try dsimp only at hSw
                  go_simp
                  all_goals with_reducible rfl
                try simp only [Act.put]
                refine wpAnyH_ready (rs := [2, 11]) (by kernel_rfl) (by simp) ?_
                refine AllReadyH.cons (o := ⟨some 81, .call { callee := .builtin .append, args := #[.tmp 79, .tmp 80], argTypes := #[39, 39] }, 39, "more.go:25", #[⟨0, .data⟩, ⟨1, .data⟩], none⟩) rfl (fun K hK => ?_) (AllReadyH.cons (o := ⟨some 90, .buildSlice 39 1 #[(0, .tmp 89)], 39, "more.go:25", #[⟨10, .data⟩], none⟩) rfl (fun K hK => ?_) AllReadyH.nil)
                · refine step_app (by rfl) _ _ Try.underlying39 info_mds rfl (by decide) (by rfl) _ (0) ([]) (by rfl) F98.three (by rfl) HX.out.2.1 (fun j u hu => by
                      obtain ⟨ad', e, hc⟩ := HX.out.2.2.1 j u hu
                      exact ⟨ad', e, pw_cell_below F98.below hc⟩) HX.out.2.2.2 (by simp only [maxLen]; omega) (by omega) ?_
                  intro v99 wa100 h101
                  refine hK.out _ _ ?_ (fun hHeld => ?_)
                  · exact (six h101).cell 0 rfl
                  clear hK K
                  try simp only [Act.put]
                  refine wpAnyH_ready (rs := [11]) (by kernel_rfl) (by simp) ?_
                  refine AllReadyH.cons (o := ⟨some 90, .buildSlice 39 1 #[(0, .tmp 89)], 39, "more.go:25", #[⟨10, .data⟩], none⟩) rfl (fun K hK => ?_) AllReadyH.nil
                  go_simp
                  have F102 := (alloc_at (n := wa100.heap.size) h101 (.cells #[.string (r.n ++ ⟨#[113]⟩), .bool false, .slice none 0 0, .slice (some ⟨wc.heap.size + 2, 0, none⟩) 1 1] 47) rfl)
                  refine hK.out _ _ ?_ (fun hHeld => ?_)
                  · exact (seven F102).cell 0 rfl
                  clear hK K
                  try simp only [Act.put]
                  refine wpAnyH_ready (rs := [12]) (by kernel_rfl) (by simp) ?_
                  refine AllReadyH.cons (o := ⟨some 91, .call { callee := .builtin .append, args := #[.tmp 81, .tmp 90], argTypes := #[39, 39] }, 39, "more.go:25", #[⟨2, .data⟩, ⟨11, .data⟩, ⟨2, .chain⟩], none⟩) rfl (fun K hK => ?_) AllReadyH.nil
                  refine step_app (by rfl) _ _ Try.underlying39 info_mds rfl (by decide) (by rfl) _ (0 + l.length) ([] ++ xa) (by rfl) F102.two (by rfl) rfl (fun j u hu => ⟨_, rfl, by rw [Sep.add_plain]; exact F102.cell j (by simpa using hu)⟩) (by simp [Value.oneCell']) (by simp only [maxLen]; omega) (by omega) ?_
                  intro v103 wa104 h105
                  refine hK.out _ _ ?_ (fun hHeld => ?_)
                  · exact (seven h105).cell 0 rfl
                  clear hK K
                  try simp only [Act.put]
                  refine wpAnyH_ready (rs := [13]) (by kernel_rfl) (by simp) ?_
                  refine AllReadyH.cons (o := ⟨some 92, .call { callee := .value (.func 19), args := #[.tmp 91], argTypes := #[39] }, 42, "more.go:25", #[⟨12, .data⟩, ⟨12, .chain⟩], none⟩) rfl (fun K hK => ?_) AllReadyH.nil
                  go_simp
                  have hRl := Reps.snoc (HX.out.1.imp_ fun _ _ hp => kMd.K_below h105.below hp) (aa_K (s := r.n) (four h105).block h105.three.block) rfl
                  obtain ⟨A106, c107, rfl, hCl⟩ := row_C (d := kMd) (l := l ++ [aaM r.n]) (by decide) (by simp) h105 hRl
                  refine (resolve_at A106 c107 (l ++ [aaM r.n]) h105 hCl (fun m hm => by
                    rcases List.mem_append.1 hm with hm | hm
                    · exact HA.out.2 m hm
                    · rw [List.mem_singleton.1 hm]; exact aa_o (HNQ.out r HM.out.2.2.2.2))).mono ?_
                  rintro e wr108 ⟨Ax, nx, cx, xx, he, -, -, h109⟩
                  subst he
                  have HQ := Lib.hid (res_aa l r.n)
                  generalize (resP (l ++ [aaM r.n])).1 = r1 at HQ ⊢
                  refine hK.out _ _ ?_ (fun hHeld => ?_)
                  · exact ((h109.drop.drop.drop.drop.drop.drop).three).cell 0 rfl
                  clear hK K
                  try simp only [Act.put]
                  refine wpAnyH_take (i := 14) (oi := ⟨some 78, .move (.tmp 92), 42, "more.go:25", #[⟨13, .data⟩], none⟩) (v := ?_) rfl (by kernel_rfl) (by kernel_rfl) (by kernel_rfl) (fun _ _ _ h => h) (Or.inl ⟨by rfl, ?_⟩) (by assumption) ?_
                  rotate_left 1
                  · intro w hSw
                    try dsimp only at hSw
                    go_simp
                    all_goals with_reducible rfl
                  try simp only [Act.put]
                  refine wpAnyH_take (i := 15) (oi := ⟨some 93, .extract (.tmp 78) 0, 41, "more.go:25", #[⟨14, .data⟩], none⟩) (v := ?_) rfl (by kernel_rfl) (by kernel_rfl) (by kernel_rfl) (fun _ _ _ h => h) (Or.inl ⟨by rfl, ?_⟩) (by assumption) ?_
                  rotate_left 1
                  · intro w hSw
                    try dsimp only at hSw
                    go_simp
                    all_goals with_reducible rfl
                  try simp only [Act.put]
                  refine wpAnyH_take (i := 16) (oi := ⟨some 94, .extract (.tmp 78) 1, 25, "more.go:25", #[⟨14, .data⟩, { on := 17, ground := Ground.gcOnly Departure.lateStores }], none⟩) (v := ?_) rfl (by kernel_rfl) (by kernel_rfl) (by kernel_rfl) (fun _ _ _ h => h) (Or.inl ⟨by rfl, ?_⟩) (by assumption) ?_
                  rotate_left 1
                  · intro w hSw
                    try dsimp only at hSw
                    go_simp
                    all_goals with_reducible rfl
                  try simp only [Act.put]
                  refine wpAnyH_take (i := 17) (oi := ⟨some 12, .assign (.tmp 93), 41, "more.go:25", #[⟨15, .data⟩, ⟨13, .chain⟩, ⟨0, .phase⟩, ⟨1, .phase⟩, ⟨2, .phase⟩, ⟨3, .phase⟩, ⟨4, .phase⟩, ⟨5, .phase⟩, ⟨6, .phase⟩, ⟨7, .phase⟩, ⟨8, .phase⟩, ⟨9, .phase⟩, ⟨10, .phase⟩, ⟨11, .phase⟩, ⟨12, .phase⟩, ⟨13, .phase⟩, ⟨14, .phase⟩, ⟨15, .phase⟩, { on := 16, ground := Ground.textOnly Departure.lateStores }], none⟩) (v := ?_) rfl (by kernel_rfl) (by kernel_rfl) (by kernel_rfl) (fun _ _ _ h => h) (Or.inl ⟨by rfl, ?_⟩) (by assumption) ?_
                  rotate_left 1
                  · intro w hSw
                    try dsimp only at hSw
                    go_simp
                    all_goals with_reducible rfl
                  try simp only [Act.put]
                  refine wpAnyH_take (i := 18) (oi := ⟨some 13, .assign (.tmp 94), 25, "more.go:25", #[⟨16, .data⟩, ⟨17, .chain⟩, ⟨0, .phase⟩, ⟨1, .phase⟩, ⟨2, .phase⟩, ⟨3, .phase⟩, ⟨4, .phase⟩, ⟨5, .phase⟩, ⟨6, .phase⟩, ⟨7, .phase⟩, ⟨8, .phase⟩, ⟨9, .phase⟩, ⟨10, .phase⟩, ⟨11, .phase⟩, ⟨12, .phase⟩, ⟨13, .phase⟩, ⟨14, .phase⟩, ⟨15, .phase⟩, ⟨16, .phase⟩, ⟨17, .phase⟩], none⟩) (v := ?_) rfl (by kernel_rfl) (by kernel_rfl) (by kernel_rfl) (fun _ _ _ h => h) (Or.inl ⟨by rfl, ?_⟩) (by assumption) ?_
                  rotate_left 1
                  · intro w hSw
                    try dsimp only at hSw
                    go_simp
                    all_goals with_reducible rfl
                  try simp only [Act.put]
                  refine wpAnyH_done (by kernel_rfl) ?_ _
                  go_wp2_with fail
                  go_meet
                  exact ⟨⟨_, _, _, rfl⟩, ⟨_, rfl, HQ⟩, h109.drop.drop.drop.drop.drop.drop⟩
                · go_simp
                  have F110 := (alloc_at (n := wc.heap.size + 3) (alloc_at (n := wc.heap.size + 2) (alloc_at (n := wc.heap.size + 1) (made0 (e := 47) (size := 4) (n := wc.heap.size) H9.out rfl) (.cells #[.string ⟨#[97]⟩, .string ⟨#[97]⟩] 9) (by simp)) (.cells #[.string ⟨#[65]⟩, .int .i64 3, .string ⟨#[]⟩, .int .i64 0, .int .i64 0, .int .i64 0, .bool false, .bool false, .slice none 0 0, .bool false, .string ⟨#[]⟩, .slice (some ⟨wc.heap.size + 1, 0, none⟩) 2 2, .slice none 0 0, .slice none 0 0, .slice none 0 0, .slice none 0 0] 59) (by simp)) (.cells #[.string (r.n ++ ⟨#[113]⟩), .bool false, .slice none 0 0, .slice (some ⟨wc.heap.size + 2, 0, none⟩) 1 1] 47) (by simp)).drew
                  refine hK.out _ _ ?_ (fun hHeld => ?_)
                  · exact (seven F110).cell 0 rfl
                  clear hK K
                  try simp only [Act.put]
                  refine wpAnyH_ready (rs := [2]) (by kernel_rfl) (by simp) ?_
                  refine AllReadyH.cons (o := ⟨some 81, .call { callee := .builtin .append, args := #[.tmp 79, .tmp 80], argTypes := #[39, 39] }, 39, "more.go:25", #[⟨0, .data⟩, ⟨1, .data⟩], none⟩) rfl (fun K hK => ?_) AllReadyH.nil
                  refine step_app (by rfl) _ _ Try.underlying39 info_mds rfl (by decide) (by rfl) _ (0) ([]) (by rfl) (four F110) (by rfl) HX.out.2.1 (fun j u hu => by
                      obtain ⟨ad', e, hc⟩ := HX.out.2.2.1 j u hu
                      exact ⟨ad', e, pw_cell_below F110.below hc⟩) HX.out.2.2.2 (by simp only [maxLen]; omega) (by omega) ?_
                  intro v111 wa112 h113
                  refine hK.out _ _ ?_ (fun hHeld => ?_)
                  · exact (seven h113).cell 0 rfl
                  clear hK K
                  try simp only [Act.put]
                  refine wpAnyH_ready (rs := [12]) (by kernel_rfl) (by simp) ?_
                  refine AllReadyH.cons (o := ⟨some 91, .call { callee := .builtin .append, args := #[.tmp 81, .tmp 90], argTypes := #[39, 39] }, 39, "more.go:25", #[⟨2, .data⟩, ⟨11, .data⟩, ⟨2, .chain⟩], none⟩) rfl (fun K hK => ?_) AllReadyH.nil
                  refine step_app (by rfl) _ _ Try.underlying39 info_mds rfl (by decide) (by rfl) _ (0 + l.length) ([] ++ xa) (by rfl) h113 (by rfl) rfl (fun j u hu => ⟨_, rfl, by rw [Sep.add_plain]; exact h113.two.cell j (by simpa using hu)⟩) (by simp [Value.oneCell']) (by simp only [maxLen]; omega) (by omega) ?_
                  intro v114 wa115 h116
                  refine hK.out _ _ ?_ (fun hHeld => ?_)
                  · exact (seven h116).cell 0 rfl
                  clear hK K
                  try simp only [Act.put]
                  refine wpAnyH_ready (rs := [13]) (by kernel_rfl) (by simp) ?_
                  refine AllReadyH.cons (o := ⟨some 92, .call { callee := .value (.func 19), args := #[.tmp 91], argTypes := #[39] }, 42, "more.go:25", #[⟨12, .data⟩, ⟨12, .chain⟩], none⟩) rfl (fun K hK => ?_) AllReadyH.nil
                  go_simp
                  have hRl := Reps.snoc (HX.out.1.imp_ fun _ _ hp => kMd.K_below h116.below hp) (aa_K (s := r.n) (four h116).block h116.three.block) rfl
                  obtain ⟨A117, c118, rfl, hCl⟩ := row_C (d := kMd) (l := l ++ [aaM r.n]) (by decide) (by simp) h116 hRl
                  refine (resolve_at A117 c118 (l ++ [aaM r.n]) h116 hCl (fun m hm => by
                    rcases List.mem_append.1 hm with hm | hm
                    · exact HA.out.2 m hm
                    · rw [List.mem_singleton.1 hm]; exact aa_o (HNQ.out r HM.out.2.2.2.2))).mono ?_
                  rintro e wr119 ⟨Ax, nx, cx, xx, he, -, -, h120⟩
                  subst he
                  have HQ := Lib.hid (res_aa l r.n)
                  generalize (resP (l ++ [aaM r.n])).1 = r1 at HQ ⊢
                  refine hK.out _ _ ?_ (fun hHeld => ?_)
                  · exact ((h120.drop.drop.drop.drop.drop.drop).three).cell 0 rfl
                  clear hK K
                  try simp only [Act.put]
                  refine wpAnyH_take (i := 14) (oi := ⟨some 78, .move (.tmp 92), 42, "more.go:25", #[⟨13, .data⟩], none⟩) (v := ?_) rfl (by kernel_rfl) (by kernel_rfl) (by kernel_rfl) (fun _ _ _ h => h) (Or.inl ⟨by rfl, ?_⟩) (by assumption) ?_
                  rotate_left 1
                  · intro w hSw
                    try dsimp only at hSw
                    go_simp
                    all_goals with_reducible rfl
                  try simp only [Act.put]
                  refine wpAnyH_take (i := 15) (oi := ⟨some 93, .extract (.tmp 78) 0, 41, "more.go:25", #[⟨14, .data⟩], none⟩) (v := ?_) rfl (by kernel_rfl) (by kernel_rfl) (by kernel_rfl) (fun _ _ _ h => h) (Or.inl ⟨by rfl, ?_⟩) (by assumption) ?_
                  rotate_left 1
                  · intro w hSw
                    try dsimp only at hSw
                    go_simp
                    all_goals with_reducible rfl
                  try simp only [Act.put]
                  refine wpAnyH_take (i := 16) (oi := ⟨some 94, .extract (.tmp 78) 1, 25, "more.go:25", #[⟨14, .data⟩, { on := 17, ground := Ground.gcOnly Departure.lateStores }], none⟩) (v := ?_) rfl (by kernel_rfl) (by kernel_rfl) (by kernel_rfl) (fun _ _ _ h => h) (Or.inl ⟨by rfl, ?_⟩) (by assumption) ?_
                  rotate_left 1
                  · intro w hSw
                    try dsimp only at hSw
                    go_simp
                    all_goals with_reducible rfl
                  try simp only [Act.put]
                  refine wpAnyH_take (i := 17) (oi := ⟨some 12, .assign (.tmp 93), 41, "more.go:25", #[⟨15, .data⟩, ⟨13, .chain⟩, ⟨0, .phase⟩, ⟨1, .phase⟩, ⟨2, .phase⟩, ⟨3, .phase⟩, ⟨4, .phase⟩, ⟨5, .phase⟩, ⟨6, .phase⟩, ⟨7, .phase⟩, ⟨8, .phase⟩, ⟨9, .phase⟩, ⟨10, .phase⟩, ⟨11, .phase⟩, ⟨12, .phase⟩, ⟨13, .phase⟩, ⟨14, .phase⟩, ⟨15, .phase⟩, { on := 16, ground := Ground.textOnly Departure.lateStores }], none⟩) (v := ?_) rfl (by kernel_rfl) (by kernel_rfl) (by kernel_rfl) (fun _ _ _ h => h) (Or.inl ⟨by rfl, ?_⟩) (by assumption) ?_
                  rotate_left 1
                  · intro w hSw
                    try dsimp only at hSw
                    go_simp
                    all_goals with_reducible rfl
                  try simp only [Act.put]
                  refine wpAnyH_take (i := 18) (oi := ⟨some 13, .assign (.tmp 94), 25, "more.go:25", #[⟨16, .data⟩, ⟨17, .chain⟩, ⟨0, .phase⟩, ⟨1, .phase⟩, ⟨2, .phase⟩, ⟨3, .phase⟩, ⟨4, .phase⟩, ⟨5, .phase⟩, ⟨6, .phase⟩, ⟨7, .phase⟩, ⟨8, .phase⟩, ⟨9, .phase⟩, ⟨10, .phase⟩, ⟨11, .phase⟩, ⟨12, .phase⟩, ⟨13, .phase⟩, ⟨14, .phase⟩, ⟨15, .phase⟩, ⟨16, .phase⟩, ⟨17, .phase⟩], none⟩) (v := ?_) rfl (by kernel_rfl) (by kernel_rfl) (by kernel_rfl) (fun _ _ _ h => h) (Or.inl ⟨by rfl, ?_⟩) (by assumption) ?_
                  rotate_left 1
                  · intro w hSw
                    try dsimp only at hSw
                    go_simp
                    all_goals with_reducible rfl
                  try simp only [Act.put]
                  refine wpAnyH_done (by kernel_rfl) ?_ _
                  go_wp2_with fail
                  go_meet
                  exact ⟨⟨_, _, _, rfl⟩, ⟨_, rfl, HQ⟩, h120.drop.drop.drop.drop.drop.drop⟩
          · go_simp
            have F121 := (alloc_at (n := wc.heap.size) H9.out (.cells #[.string ⟨#[97]⟩, .string ⟨#[97]⟩] 9) rfl).drew
            refine hK.out _ _ ?_ (fun hHeld => ?_)
            · exact (four F121).cell 0 rfl
            clear hK K
            try simp only [Act.put]
            refine wpAnyH_take (i := 7) (oi := ⟨some 86, .build 55 #[(0, .const (.int .i64 3)), (5, .tmp 85)], 55, "more.go:25", #[⟨6, .data⟩], none⟩) (v := ?_) rfl (by kernel_rfl) (by kernel_rfl) (by kernel_rfl) (fun _ _ _ h => h) (Or.inl ⟨by rfl, ?_⟩) (by assumption) ?_
            rotate_left 1
            · intro w hSw
              try dsimp only at hSw
              go_simp
              all_goals with_reducible rfl
            try simp only [Act.put]
            refine wpAnyH_take (i := 8) (oi := ⟨some 87, .build 59 #[(0, .const (.string { data := #[65] })), (1, .tmp 86)], 59, "more.go:25", #[⟨7, .data⟩], none⟩) (v := ?_) rfl (by kernel_rfl) (by kernel_rfl) (by kernel_rfl) (fun _ _ _ h => h) (Or.inl ⟨by rfl, ?_⟩) (by assumption) ?_
            rotate_left 1
            · intro w hSw
              try dsimp only at hSw
              go_simp
              all_goals with_reducible rfl
            try simp only [Act.put]
            refine wpAnyH_ready (rs := [0, 9]) (by kernel_rfl) (by simp) ?_
            refine AllReadyH.cons (o := ⟨some 79, .buildSlice 39 0 #[], 39, "more.go:25", #[], none⟩) rfl (fun K hK => ?_) (AllReadyH.cons (o := ⟨some 88, .buildSlice 45 1 #[(0, .tmp 87)], 45, "more.go:25", #[⟨8, .data⟩], none⟩) rfl (fun K hK => ?_) AllReadyH.nil)
            · go_simp
              have F122 := (made0 (e := 47) (size := 4) (n := wc.heap.size + 1) (alloc_at (n := wc.heap.size) H9.out (.cells #[.string ⟨#[97]⟩, .string ⟨#[97]⟩] 9) rfl) (by simp)).drew
              refine hK.out _ _ ?_ (fun hHeld => ?_)
              · exact (five F122).cell 0 rfl
              clear hK K
              try simp only [Act.put]
              refine wpAnyH_ready (rs := [2, 9]) (by kernel_rfl) (by simp) ?_
              refine AllReadyH.cons (o := ⟨some 81, .call { callee := .builtin .append, args := #[.tmp 79, .tmp 80], argTypes := #[39, 39] }, 39, "more.go:25", #[⟨0, .data⟩, ⟨1, .data⟩], none⟩) rfl (fun K hK => ?_) (AllReadyH.cons (o := ⟨some 88, .buildSlice 45 1 #[(0, .tmp 87)], 45, "more.go:25", #[⟨8, .data⟩], none⟩) rfl (fun K hK => ?_) AllReadyH.nil)
              · refine step_app (by rfl) _ _ Try.underlying39 info_mds rfl (by decide) (by rfl) _ (0) ([]) (by rfl) F122 (by rfl) HX.out.2.1 (fun j u hu => by
                    obtain ⟨ad', e, hc⟩ := HX.out.2.2.1 j u hu
                    exact ⟨ad', e, pw_cell_below F122.below hc⟩) HX.out.2.2.2 (by simp only [maxLen]; omega) (by omega) ?_
                intro v123 wa124 h125
                refine hK.out _ _ ?_ (fun hHeld => ?_)
                · exact (five h125).cell 0 rfl
                clear hK K
                try simp only [Act.put]
                refine wpAnyH_ready (rs := [9]) (by kernel_rfl) (by simp) ?_
                refine AllReadyH.cons (o := ⟨some 88, .buildSlice 45 1 #[(0, .tmp 87)], 45, "more.go:25", #[⟨8, .data⟩], none⟩) rfl (fun K hK => ?_) AllReadyH.nil
                go_simp
                have F126 := (alloc_at (n := wa124.heap.size) h125 (.cells #[.string ⟨#[65]⟩, .int .i64 3, .string ⟨#[]⟩, .int .i64 0, .int .i64 0, .int .i64 0, .bool false, .bool false, .slice none 0 0, .bool false, .string ⟨#[]⟩, .slice (some ⟨wc.heap.size, 0, none⟩) 2 2, .slice none 0 0, .slice none 0 0, .slice none 0 0, .slice none 0 0] 59) rfl)
                refine hK.out _ _ ?_ (fun hHeld => ?_)
                · exact (six F126).cell 0 rfl
                clear hK K
                try simp only [Act.put]
                refine wpAnyH_take (i := 10) (oi := ⟨some 89, .build 47 #[(0, .tmp 84), (3, .tmp 88)], 47, "more.go:25", #[⟨5, .data⟩, ⟨9, .data⟩], none⟩) (v := ?_) rfl (by kernel_rfl) (by kernel_rfl) (by kernel_rfl) (fun _ _ _ h => h) (Or.inl ⟨by rfl, ?_⟩) (by assumption) ?_
                rotate_left 1
                · intro w hSw
                  try dsimp only at hSw
                  go_simp
                  all_goals with_reducible rfl
                try simp only [Act.put]
                refine wpAnyH_ready (rs := [11]) (by kernel_rfl) (by simp) ?_
                refine AllReadyH.cons (o := ⟨some 90, .buildSlice 39 1 #[(0, .tmp 89)], 39, "more.go:25", #[⟨10, .data⟩], none⟩) rfl (fun K hK => ?_) AllReadyH.nil
                go_simp
                have F127 := (alloc_at (n := wa124.heap.size + 1) (alloc_at (n := wa124.heap.size) h125 (.cells #[.string ⟨#[65]⟩, .int .i64 3, .string ⟨#[]⟩, .int .i64 0, .int .i64 0, .int .i64 0, .bool false, .bool false, .slice none 0 0, .bool false, .string ⟨#[]⟩, .slice (some ⟨wc.heap.size, 0, none⟩) 2 2, .slice none 0 0, .slice none 0 0, .slice none 0 0, .slice none 0 0] 59) rfl) (.cells #[.string (r.n ++ ⟨#[113]⟩), .bool false, .slice none 0 0, .slice (some ⟨wa124.heap.size, 0, none⟩) 1 1] 47) (by simp))
                refine hK.out _ _ ?_ (fun hHeld => ?_)
                · exact (seven F127).cell 0 rfl
                clear hK K
                try simp only [Act.put]
                refine wpAnyH_ready (rs := [12]) (by kernel_rfl) (by simp) ?_
                refine AllReadyH.cons (o := ⟨some 91, .call { callee := .builtin .append, args := #[.tmp 81, .tmp 90], argTypes := #[39, 39] }, 39, "more.go:25", #[⟨2, .data⟩, ⟨11, .data⟩, ⟨2, .chain⟩], none⟩) rfl (fun K hK => ?_) AllReadyH.nil
                refine step_app (by rfl) _ _ Try.underlying39 info_mds rfl (by decide) (by rfl) _ (0 + l.length) ([] ++ xa) (by rfl) F127.three (by rfl) rfl (fun j u hu => ⟨_, rfl, by rw [Sep.add_plain]; exact F127.cell j (by simpa using hu)⟩) (by simp [Value.oneCell']) (by simp only [maxLen]; omega) (by omega) ?_
                intro v128 wa129 h130
                refine hK.out _ _ ?_ (fun hHeld => ?_)
                · exact (seven h130).cell 0 rfl
                clear hK K
                try simp only [Act.put]
                refine wpAnyH_ready (rs := [13]) (by kernel_rfl) (by simp) ?_
                refine AllReadyH.cons (o := ⟨some 92, .call { callee := .value (.func 19), args := #[.tmp 91], argTypes := #[39] }, 42, "more.go:25", #[⟨12, .data⟩, ⟨12, .chain⟩], none⟩) rfl (fun K hK => ?_) AllReadyH.nil
                go_simp
                have hRl := Reps.snoc (HX.out.1.imp_ fun _ _ hp => kMd.K_below h130.below hp) (aa_K (s := r.n) (four h130).block h130.three.block) rfl
                obtain ⟨A131, c132, rfl, hCl⟩ := row_C (d := kMd) (l := l ++ [aaM r.n]) (by decide) (by simp) h130 hRl
                refine (resolve_at A131 c132 (l ++ [aaM r.n]) h130 hCl (fun m hm => by
                  rcases List.mem_append.1 hm with hm | hm
                  · exact HA.out.2 m hm
                  · rw [List.mem_singleton.1 hm]; exact aa_o (HNQ.out r HM.out.2.2.2.2))).mono ?_
                rintro e wr133 ⟨Ax, nx, cx, xx, he, -, -, h134⟩
                subst he
                have HQ := Lib.hid (res_aa l r.n)
                generalize (resP (l ++ [aaM r.n])).1 = r1 at HQ ⊢
                refine hK.out _ _ ?_ (fun hHeld => ?_)
                · exact ((h134.drop.drop.drop.drop.drop.drop).three).cell 0 rfl
                clear hK K
                try simp only [Act.put]
                refine wpAnyH_take (i := 14) (oi := ⟨some 78, .move (.tmp 92), 42, "more.go:25", #[⟨13, .data⟩], none⟩) (v := ?_) rfl (by kernel_rfl) (by kernel_rfl) (by kernel_rfl) (fun _ _ _ h => h) (Or.inl ⟨by rfl, ?_⟩) (by assumption) ?_
                rotate_left 1
                · intro w hSw
                  try dsimp only at hSw
                  go_simp
                  all_goals with_reducible rfl
                try simp only [Act.put]
                refine wpAnyH_take (i := 15) (oi := ⟨some 93, .extract (.tmp 78) 0, 41, "more.go:25", #[⟨14, .data⟩], none⟩) (v := ?_) rfl (by kernel_rfl) (by kernel_rfl) (by kernel_rfl) (fun _ _ _ h => h) (Or.inl ⟨by rfl, ?_⟩) (by assumption) ?_
                rotate_left 1
                · intro w hSw
                  try dsimp only at hSw
                  go_simp
                  all_goals with_reducible rfl
                try simp only [Act.put]
                refine wpAnyH_take (i := 16) (oi := ⟨some 94, .extract (.tmp 78) 1, 25, "more.go:25", #[⟨14, .data⟩, { on := 17, ground := Ground.gcOnly Departure.lateStores }], none⟩) (v := ?_) rfl (by kernel_rfl) (by kernel_rfl) (by kernel_rfl) (fun _ _ _ h => h) (Or.inl ⟨by rfl, ?_⟩) (by assumption) ?_
                rotate_left 1
                · intro w hSw
                  try dsimp only at hSw
                  go_simp
                  all_goals with_reducible rfl
                try simp only [Act.put]
                refine wpAnyH_take (i := 17) (oi := ⟨some 12, .assign (.tmp 93), 41, "more.go:25", #[⟨15, .data⟩, ⟨13, .chain⟩, ⟨0, .phase⟩, ⟨1, .phase⟩, ⟨2, .phase⟩, ⟨3, .phase⟩, ⟨4, .phase⟩, ⟨5, .phase⟩, ⟨6, .phase⟩, ⟨7, .phase⟩, ⟨8, .phase⟩, ⟨9, .phase⟩, ⟨10, .phase⟩, ⟨11, .phase⟩, ⟨12, .phase⟩, ⟨13, .phase⟩, ⟨14, .phase⟩, ⟨15, .phase⟩, { on := 16, ground := Ground.textOnly Departure.lateStores }], none⟩) (v := ?_) rfl (by kernel_rfl) (by kernel_rfl) (by kernel_rfl) (fun _ _ _ h => h) (Or.inl ⟨by rfl, ?_⟩) (by assumption) ?_
                rotate_left 1
                · intro w hSw
                  try dsimp only at hSw
                  go_simp
                  all_goals with_reducible rfl
                try simp only [Act.put]
                refine wpAnyH_take (i := 18) (oi := ⟨some 13, .assign (.tmp 94), 25, "more.go:25", #[⟨16, .data⟩, ⟨17, .chain⟩, ⟨0, .phase⟩, ⟨1, .phase⟩, ⟨2, .phase⟩, ⟨3, .phase⟩, ⟨4, .phase⟩, ⟨5, .phase⟩, ⟨6, .phase⟩, ⟨7, .phase⟩, ⟨8, .phase⟩, ⟨9, .phase⟩, ⟨10, .phase⟩, ⟨11, .phase⟩, ⟨12, .phase⟩, ⟨13, .phase⟩, ⟨14, .phase⟩, ⟨15, .phase⟩, ⟨16, .phase⟩, ⟨17, .phase⟩], none⟩) (v := ?_) rfl (by kernel_rfl) (by kernel_rfl) (by kernel_rfl) (fun _ _ _ h => h) (Or.inl ⟨by rfl, ?_⟩) (by assumption) ?_
                rotate_left 1
                · intro w hSw
                  try dsimp only at hSw
                  go_simp
                  all_goals with_reducible rfl
                try simp only [Act.put]
                refine wpAnyH_done (by kernel_rfl) ?_ _
                go_wp2_with fail
                go_meet
                exact ⟨⟨_, _, _, rfl⟩, ⟨_, rfl, HQ⟩, h134.drop.drop.drop.drop.drop.drop⟩
              · go_simp
                have F135 := (alloc_at (n := wc.heap.size + 2) (made0 (e := 47) (size := 4) (n := wc.heap.size + 1) (alloc_at (n := wc.heap.size) H9.out (.cells #[.string ⟨#[97]⟩, .string ⟨#[97]⟩] 9) rfl) (by simp)) (.cells #[.string ⟨#[65]⟩, .int .i64 3, .string ⟨#[]⟩, .int .i64 0, .int .i64 0, .int .i64 0, .bool false, .bool false, .slice none 0 0, .bool false, .string ⟨#[]⟩, .slice (some ⟨wc.heap.size, 0, none⟩) 2 2, .slice none 0 0, .slice none 0 0, .slice none 0 0, .slice none 0 0] 59) (by simp)).drew
                refine hK.out _ _ ?_ (fun hHeld => ?_)
                · exact (six F135).cell 0 rfl
                clear hK K
                try simp only [Act.put]
                refine wpAnyH_take (i := 10) (oi := ⟨some 89, .build 47 #[(0, .tmp 84), (3, .tmp 88)], 47, "more.go:25", #[⟨5, .data⟩, ⟨9, .data⟩], none⟩) (v := ?_) rfl (by kernel_rfl) (by kernel_rfl) (by kernel_rfl) (fun _ _ _ h => h) (Or.inl ⟨by rfl, ?_⟩) (by assumption) ?_
                rotate_left 1
                · intro w hSw
                  try dsimp only at hSw
                  go_simp
                  all_goals with_reducible rfl
                try simp only [Act.put]
                refine wpAnyH_ready (rs := [2, 11]) (by kernel_rfl) (by simp) ?_
                refine AllReadyH.cons (o := ⟨some 81, .call { callee := .builtin .append, args := #[.tmp 79, .tmp 80], argTypes := #[39, 39] }, 39, "more.go:25", #[⟨0, .data⟩, ⟨1, .data⟩], none⟩) rfl (fun K hK => ?_) (AllReadyH.cons (o := ⟨some 90, .buildSlice 39 1 #[(0, .tmp 89)], 39, "more.go:25", #[⟨10, .data⟩], none⟩) rfl (fun K hK => ?_) AllReadyH.nil)
                · refine step_app (by rfl) _ _ Try.underlying39 info_mds rfl (by decide) (by rfl) _ (0) ([]) (by rfl) F135.two (by rfl) HX.out.2.1 (fun j u hu => by
                      obtain ⟨ad', e, hc⟩ := HX.out.2.2.1 j u hu
                      exact ⟨ad', e, pw_cell_below F135.below hc⟩) HX.out.2.2.2 (by simp only [maxLen]; omega) (by omega) ?_
                  intro v136 wa137 h138
                  refine hK.out _ _ ?_ (fun hHeld => ?_)
                  · exact (six h138).cell 0 rfl
                  clear hK K
                  try simp only [Act.put]
                  refine wpAnyH_ready (rs := [11]) (by kernel_rfl) (by simp) ?_
                  refine AllReadyH.cons (o := ⟨some 90, .buildSlice 39 1 #[(0, .tmp 89)], 39, "more.go:25", #[⟨10, .data⟩], none⟩) rfl (fun K hK => ?_) AllReadyH.nil
                  go_simp
                  have F139 := (alloc_at (n := wa137.heap.size) h138 (.cells #[.string (r.n ++ ⟨#[113]⟩), .bool false, .slice none 0 0, .slice (some ⟨wc.heap.size + 2, 0, none⟩) 1 1] 47) rfl)
                  refine hK.out _ _ ?_ (fun hHeld => ?_)
                  · exact (seven F139).cell 0 rfl
                  clear hK K
                  try simp only [Act.put]
                  refine wpAnyH_ready (rs := [12]) (by kernel_rfl) (by simp) ?_
                  refine AllReadyH.cons (o := ⟨some 91, .call { callee := .builtin .append, args := #[.tmp 81, .tmp 90], argTypes := #[39, 39] }, 39, "more.go:25", #[⟨2, .data⟩, ⟨11, .data⟩, ⟨2, .chain⟩], none⟩) rfl (fun K hK => ?_) AllReadyH.nil
                  refine step_app (by rfl) _ _ Try.underlying39 info_mds rfl (by decide) (by rfl) _ (0 + l.length) ([] ++ xa) (by rfl) F139.two (by rfl) rfl (fun j u hu => ⟨_, rfl, by rw [Sep.add_plain]; exact F139.cell j (by simpa using hu)⟩) (by simp [Value.oneCell']) (by simp only [maxLen]; omega) (by omega) ?_
                  intro v140 wa141 h142
                  refine hK.out _ _ ?_ (fun hHeld => ?_)
                  · exact (seven h142).cell 0 rfl
                  clear hK K
                  try simp only [Act.put]
                  refine wpAnyH_ready (rs := [13]) (by kernel_rfl) (by simp) ?_
                  refine AllReadyH.cons (o := ⟨some 92, .call { callee := .value (.func 19), args := #[.tmp 91], argTypes := #[39] }, 42, "more.go:25", #[⟨12, .data⟩, ⟨12, .chain⟩], none⟩) rfl (fun K hK => ?_) AllReadyH.nil
                  go_simp
                  have hRl := Reps.snoc (HX.out.1.imp_ fun _ _ hp => kMd.K_below h142.below hp) (aa_K (s := r.n) (four h142).block h142.three.block) rfl
                  obtain ⟨A143, c144, rfl, hCl⟩ := row_C (d := kMd) (l := l ++ [aaM r.n]) (by decide) (by simp) h142 hRl
                  refine (resolve_at A143 c144 (l ++ [aaM r.n]) h142 hCl (fun m hm => by
                    rcases List.mem_append.1 hm with hm | hm
                    · exact HA.out.2 m hm
                    · rw [List.mem_singleton.1 hm]; exact aa_o (HNQ.out r HM.out.2.2.2.2))).mono ?_
                  rintro e wr145 ⟨Ax, nx, cx, xx, he, -, -, h146⟩
                  subst he
                  have HQ := Lib.hid (res_aa l r.n)
                  generalize (resP (l ++ [aaM r.n])).1 = r1 at HQ ⊢
                  refine hK.out _ _ ?_ (fun hHeld => ?_)
                  · exact ((h146.drop.drop.drop.drop.drop.drop).three).cell 0 rfl
                  clear hK K
                  try simp only [Act.put]
                  refine wpAnyH_take (i := 14) (oi := ⟨some 78, .move (.tmp 92), 42, "more.go:25", #[⟨13, .data⟩], none⟩) (v := ?_) rfl (by kernel_rfl) (by kernel_rfl) (by kernel_rfl) (fun _ _ _ h => h) (Or.inl ⟨by rfl, ?_⟩) (by assumption) ?_
                  rotate_left 1
                  · intro w hSw
                    try dsimp only at hSw
                    go_simp
                    all_goals with_reducible rfl
                  try simp only [Act.put]
                  refine wpAnyH_take (i := 15) (oi := ⟨some 93, .extract (.tmp 78) 0, 41, "more.go:25", #[⟨14, .data⟩], none⟩) (v := ?_) rfl (by kernel_rfl) (by kernel_rfl) (by kernel_rfl) (fun _ _ _ h => h) (Or.inl ⟨by rfl, ?_⟩) (by assumption) ?_
                  rotate_left 1
                  · intro w hSw
                    try dsimp only at hSw
                    go_simp
                    all_goals with_reducible rfl
                  try simp only [Act.put]
                  refine wpAnyH_take (i := 16) (oi := ⟨some 94, .extract (.tmp 78) 1, 25, "more.go:25", #[⟨14, .data⟩, { on := 17, ground := Ground.gcOnly Departure.lateStores }], none⟩) (v := ?_) rfl (by kernel_rfl) (by kernel_rfl) (by kernel_rfl) (fun _ _ _ h => h) (Or.inl ⟨by rfl, ?_⟩) (by assumption) ?_
                  rotate_left 1
                  · intro w hSw
                    try dsimp only at hSw
                    go_simp
                    all_goals with_reducible rfl
                  try simp only [Act.put]
                  refine wpAnyH_take (i := 17) (oi := ⟨some 12, .assign (.tmp 93), 41, "more.go:25", #[⟨15, .data⟩, ⟨13, .chain⟩, ⟨0, .phase⟩, ⟨1, .phase⟩, ⟨2, .phase⟩, ⟨3, .phase⟩, ⟨4, .phase⟩, ⟨5, .phase⟩, ⟨6, .phase⟩, ⟨7, .phase⟩, ⟨8, .phase⟩, ⟨9, .phase⟩, ⟨10, .phase⟩, ⟨11, .phase⟩, ⟨12, .phase⟩, ⟨13, .phase⟩, ⟨14, .phase⟩, ⟨15, .phase⟩, { on := 16, ground := Ground.textOnly Departure.lateStores }], none⟩) (v := ?_) rfl (by kernel_rfl) (by kernel_rfl) (by kernel_rfl) (fun _ _ _ h => h) (Or.inl ⟨by rfl, ?_⟩) (by assumption) ?_
                  rotate_left 1
                  · intro w hSw
                    try dsimp only at hSw
                    go_simp
                    all_goals with_reducible rfl
                  try simp only [Act.put]
                  refine wpAnyH_take (i := 18) (oi := ⟨some 13, .assign (.tmp 94), 25, "more.go:25", #[⟨16, .data⟩, ⟨17, .chain⟩, ⟨0, .phase⟩, ⟨1, .phase⟩, ⟨2, .phase⟩, ⟨3, .phase⟩, ⟨4, .phase⟩, ⟨5, .phase⟩, ⟨6, .phase⟩, ⟨7, .phase⟩, ⟨8, .phase⟩, ⟨9, .phase⟩, ⟨10, .phase⟩, ⟨11, .phase⟩, ⟨12, .phase⟩, ⟨13, .phase⟩, ⟨14, .phase⟩, ⟨15, .phase⟩, ⟨16, .phase⟩, ⟨17, .phase⟩], none⟩) (v := ?_) rfl (by kernel_rfl) (by kernel_rfl) (by kernel_rfl) (fun _ _ _ h => h) (Or.inl ⟨by rfl, ?_⟩) (by assumption) ?_
                  rotate_left 1
                  · intro w hSw
                    try dsimp only at hSw
                    go_simp
                    all_goals with_reducible rfl
                  try simp only [Act.put]
                  refine wpAnyH_done (by kernel_rfl) ?_ _
                  go_wp2_with fail
                  go_meet
                  exact ⟨⟨_, _, _, rfl⟩, ⟨_, rfl, HQ⟩, h146.drop.drop.drop.drop.drop.drop⟩
                · go_simp
                  have F147 := (alloc_at (n := wc.heap.size + 3) (alloc_at (n := wc.heap.size + 2) (made0 (e := 47) (size := 4) (n := wc.heap.size + 1) (alloc_at (n := wc.heap.size) H9.out (.cells #[.string ⟨#[97]⟩, .string ⟨#[97]⟩] 9) rfl) (by simp)) (.cells #[.string ⟨#[65]⟩, .int .i64 3, .string ⟨#[]⟩, .int .i64 0, .int .i64 0, .int .i64 0, .bool false, .bool false, .slice none 0 0, .bool false, .string ⟨#[]⟩, .slice (some ⟨wc.heap.size, 0, none⟩) 2 2, .slice none 0 0, .slice none 0 0, .slice none 0 0, .slice none 0 0] 59) (by simp)) (.cells #[.string (r.n ++ ⟨#[113]⟩), .bool false, .slice none 0 0, .slice (some ⟨wc.heap.size + 2, 0, none⟩) 1 1] 47) (by simp)).drew
                  refine hK.out _ _ ?_ (fun hHeld => ?_)
                  · exact (seven F147).cell 0 rfl
                  clear hK K
                  try simp only [Act.put]
                  refine wpAnyH_ready (rs := [2]) (by kernel_rfl) (by simp) ?_
                  refine AllReadyH.cons (o := ⟨some 81, .call { callee := .builtin .append, args := #[.tmp 79, .tmp 80], argTypes := #[39, 39] }, 39, "more.go:25", #[⟨0, .data⟩, ⟨1, .data⟩], none⟩) rfl (fun K hK => ?_) AllReadyH.nil
                  refine step_app (by rfl) _ _ Try.underlying39 info_mds rfl (by decide) (by rfl) _ (0) ([]) (by rfl) F147.three (by rfl) HX.out.2.1 (fun j u hu => by
                      obtain ⟨ad', e, hc⟩ := HX.out.2.2.1 j u hu
                      exact ⟨ad', e, pw_cell_below F147.below hc⟩) HX.out.2.2.2 (by simp only [maxLen]; omega) (by omega) ?_
                  intro v148 wa149 h150
                  refine hK.out _ _ ?_ (fun hHeld => ?_)
                  · exact (seven h150).cell 0 rfl
                  clear hK K
                  try simp only [Act.put]
                  refine wpAnyH_ready (rs := [12]) (by kernel_rfl) (by simp) ?_
                  refine AllReadyH.cons (o := ⟨some 91, .call { callee := .builtin .append, args := #[.tmp 81, .tmp 90], argTypes := #[39, 39] }, 39, "more.go:25", #[⟨2, .data⟩, ⟨11, .data⟩, ⟨2, .chain⟩], none⟩) rfl (fun K hK => ?_) AllReadyH.nil
                  refine step_app (by rfl) _ _ Try.underlying39 info_mds rfl (by decide) (by rfl) _ (0 + l.length) ([] ++ xa) (by rfl) h150 (by rfl) rfl (fun j u hu => ⟨_, rfl, by rw [Sep.add_plain]; exact h150.two.cell j (by simpa using hu)⟩) (by simp [Value.oneCell']) (by simp only [maxLen]; omega) (by omega) ?_
                  intro v151 wa152 h153
                  refine hK.out _ _ ?_ (fun hHeld => ?_)
                  · exact (seven h153).cell 0 rfl
                  clear hK K
                  try simp only [Act.put]
                  refine wpAnyH_ready (rs := [13]) (by kernel_rfl) (by simp) ?_
                  refine AllReadyH.cons (o := ⟨some 92, .call { callee := .value (.func 19), args := #[.tmp 91], argTypes := #[39] }, 42, "more.go:25", #[⟨12, .data⟩, ⟨12, .chain⟩], none⟩) rfl (fun K hK => ?_) AllReadyH.nil
                  go_simp
                  have hRl := Reps.snoc (HX.out.1.imp_ fun _ _ hp => kMd.K_below h153.below hp) (aa_K (s := r.n) (four h153).block h153.three.block) rfl
                  obtain ⟨A154, c155, rfl, hCl⟩ := row_C (d := kMd) (l := l ++ [aaM r.n]) (by decide) (by simp) h153 hRl
                  refine (resolve_at A154 c155 (l ++ [aaM r.n]) h153 hCl (fun m hm => by
                    rcases List.mem_append.1 hm with hm | hm
                    · exact HA.out.2 m hm
                    · rw [List.mem_singleton.1 hm]; exact aa_o (HNQ.out r HM.out.2.2.2.2))).mono ?_
                  rintro e wr156 ⟨Ax, nx, cx, xx, he, -, -, h157⟩
                  subst he
                  have HQ := Lib.hid (res_aa l r.n)
                  generalize (resP (l ++ [aaM r.n])).1 = r1 at HQ ⊢
                  refine hK.out _ _ ?_ (fun hHeld => ?_)
                  · exact ((h157.drop.drop.drop.drop.drop.drop).three).cell 0 rfl
                  clear hK K
                  try simp only [Act.put]
                  refine wpAnyH_take (i := 14) (oi := ⟨some 78, .move (.tmp 92), 42, "more.go:25", #[⟨13, .data⟩], none⟩) (v := ?_) rfl (by kernel_rfl) (by kernel_rfl) (by kernel_rfl) (fun _ _ _ h => h) (Or.inl ⟨by rfl, ?_⟩) (by assumption) ?_
                  rotate_left 1
                  · intro w hSw
                    try dsimp only at hSw
                    go_simp
                    all_goals with_reducible rfl
                  try simp only [Act.put]
                  refine wpAnyH_take (i := 15) (oi := ⟨some 93, .extract (.tmp 78) 0, 41, "more.go:25", #[⟨14, .data⟩], none⟩) (v := ?_) rfl (by kernel_rfl) (by kernel_rfl) (by kernel_rfl) (fun _ _ _ h => h) (Or.inl ⟨by rfl, ?_⟩) (by assumption) ?_
                  rotate_left 1
                  · intro w hSw
                    try dsimp only at hSw
                    go_simp
                    all_goals with_reducible rfl
                  try simp only [Act.put]
                  refine wpAnyH_take (i := 16) (oi := ⟨some 94, .extract (.tmp 78) 1, 25, "more.go:25", #[⟨14, .data⟩, { on := 17, ground := Ground.gcOnly Departure.lateStores }], none⟩) (v := ?_) rfl (by kernel_rfl) (by kernel_rfl) (by kernel_rfl) (fun _ _ _ h => h) (Or.inl ⟨by rfl, ?_⟩) (by assumption) ?_
                  rotate_left 1
                  · intro w hSw
                    try dsimp only at hSw
                    go_simp
                    all_goals with_reducible rfl
                  try simp only [Act.put]
                  refine wpAnyH_take (i := 17) (oi := ⟨some 12, .assign (.tmp 93), 41, "more.go:25", #[⟨15, .data⟩, ⟨13, .chain⟩, ⟨0, .phase⟩, ⟨1, .phase⟩, ⟨2, .phase⟩, ⟨3, .phase⟩, ⟨4, .phase⟩, ⟨5, .phase⟩, ⟨6, .phase⟩, ⟨7, .phase⟩, ⟨8, .phase⟩, ⟨9, .phase⟩, ⟨10, .phase⟩, ⟨11, .phase⟩, ⟨12, .phase⟩, ⟨13, .phase⟩, ⟨14, .phase⟩, ⟨15, .phase⟩, { on := 16, ground := Ground.textOnly Departure.lateStores }], none⟩) (v := ?_) rfl (by kernel_rfl) (by kernel_rfl) (by kernel_rfl) (fun _ _ _ h => h) (Or.inl ⟨by rfl, ?_⟩) (by assumption) ?_
                  rotate_left 1
                  · intro w hSw
                    try dsimp only at hSw
                    go_simp
                    all_goals with_reducible rfl
                  try simp only [Act.put]
                  refine wpAnyH_take (i := 18) (oi := ⟨some 13, .assign (.tmp 94), 25, "more.go:25", #[⟨16, .data⟩, ⟨17, .chain⟩, ⟨0, .phase⟩, ⟨1, .phase⟩, ⟨2, .phase⟩, ⟨3, .phase⟩, ⟨4, .phase⟩, ⟨5, .phase⟩, ⟨6, .phase⟩, ⟨7, .phase⟩, ⟨8, .phase⟩, ⟨9, .phase⟩, ⟨10, .phase⟩, ⟨11, .phase⟩, ⟨12, .phase⟩, ⟨13, .phase⟩, ⟨14, .phase⟩, ⟨15, .phase⟩, ⟨16, .phase⟩, ⟨17, .phase⟩], none⟩) (v := ?_) rfl (by kernel_rfl) (by kernel_rfl) (by kernel_rfl) (fun _ _ _ h => h) (Or.inl ⟨by rfl, ?_⟩) (by assumption) ?_
                  rotate_left 1
                  · intro w hSw
                    try dsimp only at hSw
                    go_simp
                    all_goals with_reducible rfl
                  try simp only [Act.put]
                  refine wpAnyH_done (by kernel_rfl) ?_ _
                  go_wp2_with fail
                  go_meet
                  exact ⟨⟨_, _, _, rfl⟩, ⟨_, rfl, HQ⟩, h157.drop.drop.drop.drop.drop.drop⟩
            · go_simp
              have F158 := (alloc_at (n := wc.heap.size + 1) (alloc_at (n := wc.heap.size) H9.out (.cells #[.string ⟨#[97]⟩, .string ⟨#[97]⟩] 9) rfl) (.cells #[.string ⟨#[65]⟩, .int .i64 3, .string ⟨#[]⟩, .int .i64 0, .int .i64 0, .int .i64 0, .bool false, .bool false, .slice none 0 0, .bool false, .string ⟨#[]⟩, .slice (some ⟨wc.heap.size, 0, none⟩) 2 2, .slice none 0 0, .slice none 0 0, .slice none 0 0, .slice none 0 0] 59) (by simp)).drew
              refine hK.out _ _ ?_ (fun hHeld => ?_)
              · exact (five F158).cell 0 rfl
              clear hK K
              try simp only [Act.put]
              refine wpAnyH_take (i := 10) (oi := ⟨some 89, .build 47 #[(0, .tmp 84), (3, .tmp 88)], 47, "more.go:25", #[⟨5, .data⟩, ⟨9, .data⟩], none⟩) (v := ?_) rfl (by kernel_rfl) (by kernel_rfl) (by kernel_rfl) (fun _ _ _ h => h) (Or.inl ⟨by rfl, ?_⟩) (by assumption) ?_
              rotate_left 1
              · intro w hSw
                try dsimp only at hSw
                go_simp
                all_goals with_reducible rfl
              try simp only [Act.put]
              refine wpAnyH_ready (rs := [0, 11]) (by kernel_rfl) (by simp) ?_
              refine AllReadyH.cons (o := ⟨some 79, .buildSlice 39 0 #[], 39, "more.go:25", #[], none⟩) rfl (fun K hK => ?_) (AllReadyH.cons (o := ⟨some 90, .buildSlice 39 1 #[(0, .tmp 89)], 39, "more.go:25", #[⟨10, .data⟩], none⟩) rfl (fun K hK => ?_) AllReadyH.nil)
              · go_simp
                have F159 := (made0 (e := 47) (size := 4) (n := wc.heap.size + 2) (alloc_at (n := wc.heap.size + 1) (alloc_at (n := wc.heap.size) H9.out (.cells #[.string ⟨#[97]⟩, .string ⟨#[97]⟩] 9) rfl) (.cells #[.string ⟨#[65]⟩, .int .i64 3, .string ⟨#[]⟩, .int .i64 0, .int .i64 0, .int .i64 0, .bool false, .bool false, .slice none 0 0, .bool false, .string ⟨#[]⟩, .slice (some ⟨wc.heap.size, 0, none⟩) 2 2, .slice none 0 0, .slice none 0 0, .slice none 0 0, .slice none 0 0] 59) (by simp)) (by simp)).drew
                refine hK.out _ _ ?_ (fun hHeld => ?_)
                · exact (six F159).cell 0 rfl
                clear hK K
                try simp only [Act.put]
                refine wpAnyH_ready (rs := [2, 11]) (by kernel_rfl) (by simp) ?_
                refine AllReadyH.cons (o := ⟨some 81, .call { callee := .builtin .append, args := #[.tmp 79, .tmp 80], argTypes := #[39, 39] }, 39, "more.go:25", #[⟨0, .data⟩, ⟨1, .data⟩], none⟩) rfl (fun K hK => ?_) (AllReadyH.cons (o := ⟨some 90, .buildSlice 39 1 #[(0, .tmp 89)], 39, "more.go:25", #[⟨10, .data⟩], none⟩) rfl (fun K hK => ?_) AllReadyH.nil)
                · refine step_app (by rfl) _ _ Try.underlying39 info_mds rfl (by decide) (by rfl) _ (0) ([]) (by rfl) F159 (by rfl) HX.out.2.1 (fun j u hu => by
                      obtain ⟨ad', e, hc⟩ := HX.out.2.2.1 j u hu
                      exact ⟨ad', e, pw_cell_below F159.below hc⟩) HX.out.2.2.2 (by simp only [maxLen]; omega) (by omega) ?_
                  intro v160 wa161 h162
                  refine hK.out _ _ ?_ (fun hHeld => ?_)
                  · exact (six h162).cell 0 rfl
                  clear hK K
                  try simp only [Act.put]
                  refine wpAnyH_ready (rs := [11]) (by kernel_rfl) (by simp) ?_
                  refine AllReadyH.cons (o := ⟨some 90, .buildSlice 39 1 #[(0, .tmp 89)], 39, "more.go:25", #[⟨10, .data⟩], none⟩) rfl (fun K hK => ?_) AllReadyH.nil
                  go_simp
                  have F163 := (alloc_at (n := wa161.heap.size) h162 (.cells #[.string (r.n ++ ⟨#[113]⟩), .bool false, .slice none 0 0, .slice (some ⟨wc.heap.size + 1, 0, none⟩) 1 1] 47) rfl)
                  refine hK.out _ _ ?_ (fun hHeld => ?_)
                  · exact (seven F163).cell 0 rfl
                  clear hK K
                  try simp only [Act.put]
                  refine wpAnyH_ready (rs := [12]) (by kernel_rfl) (by simp) ?_
                  refine AllReadyH.cons (o := ⟨some 91, .call { callee := .builtin .append, args := #[.tmp 81, .tmp 90], argTypes := #[39, 39] }, 39, "more.go:25", #[⟨2, .data⟩, ⟨11, .data⟩, ⟨2, .chain⟩], none⟩) rfl (fun K hK => ?_) AllReadyH.nil
                  refine step_app (by rfl) _ _ Try.underlying39 info_mds rfl (by decide) (by rfl) _ (0 + l.length) ([] ++ xa) (by rfl) F163.two (by rfl) rfl (fun j u hu => ⟨_, rfl, by rw [Sep.add_plain]; exact F163.cell j (by simpa using hu)⟩) (by simp [Value.oneCell']) (by simp only [maxLen]; omega) (by omega) ?_
                  intro v164 wa165 h166
                  refine hK.out _ _ ?_ (fun hHeld => ?_)
                  · exact (seven h166).cell 0 rfl
                  clear hK K
                  try simp only [Act.put]
                  refine wpAnyH_ready (rs := [13]) (by kernel_rfl) (by simp) ?_
                  refine AllReadyH.cons (o := ⟨some 92, .call { callee := .value (.func 19), args := #[.tmp 91], argTypes := #[39] }, 42, "more.go:25", #[⟨12, .data⟩, ⟨12, .chain⟩], none⟩) rfl (fun K hK => ?_) AllReadyH.nil
                  go_simp
                  have hRl := Reps.snoc (HX.out.1.imp_ fun _ _ hp => kMd.K_below h166.below hp) (aa_K (s := r.n) (four h166).block h166.three.block) rfl
                  obtain ⟨A167, c168, rfl, hCl⟩ := row_C (d := kMd) (l := l ++ [aaM r.n]) (by decide) (by simp) h166 hRl
                  refine (resolve_at A167 c168 (l ++ [aaM r.n]) h166 hCl (fun m hm => by
                    rcases List.mem_append.1 hm with hm | hm
                    · exact HA.out.2 m hm
                    · rw [List.mem_singleton.1 hm]; exact aa_o (HNQ.out r HM.out.2.2.2.2))).mono ?_
                  rintro e wr169 ⟨Ax, nx, cx, xx, he, -, -, h170⟩
                  subst he
                  have HQ := Lib.hid (res_aa l r.n)
                  generalize (resP (l ++ [aaM r.n])).1 = r1 at HQ ⊢
                  refine hK.out _ _ ?_ (fun hHeld => ?_)
                  · exact ((h170.drop.drop.drop.drop.drop.drop).three).cell 0 rfl
                  clear hK K
                  try simp only [Act.put]
                  refine wpAnyH_take (i := 14) (oi := ⟨some 78, .move (.tmp 92), 42, "more.go:25", #[⟨13, .data⟩], none⟩) (v := ?_) rfl (by kernel_rfl) (by kernel_rfl) (by kernel_rfl) (fun _ _ _ h => h) (Or.inl ⟨by rfl, ?_⟩) (by assumption) ?_
                  rotate_left 1
                  · intro w hSw
                    try dsimp only at hSw
                    go_simp
                    all_goals with_reducible rfl
                  try simp only [Act.put]
                  refine wpAnyH_take (i := 15) (oi := ⟨some 93, .extract (.tmp 78) 0, 41, "more.go:25", #[⟨14, .data⟩], none⟩) (v := ?_) rfl (by kernel_rfl) (by kernel_rfl) (by kernel_rfl) (fun _ _ _ h => h) (Or.inl ⟨by rfl, ?_⟩) (by assumption) ?_
                  rotate_left 1
                  · intro w hSw
                    try dsimp only at hSw
                    go_simp
                    all_goals with_reducible rfl
                  try simp only [Act.put]
                  refine wpAnyH_take (i := 16) (oi := ⟨some 94, .extract (.tmp 78) 1, 25, "more.go:25", #[⟨14, .data⟩, { on := 17, ground := Ground.gcOnly Departure.lateStores }], none⟩) (v := ?_) rfl (by kernel_rfl) (by kernel_rfl) (by kernel_rfl) (fun _ _ _ h => h) (Or.inl ⟨by rfl, ?_⟩) (by assumption) ?_
                  rotate_left 1
                  · intro w hSw
                    try dsimp only at hSw
                    go_simp
                    all_goals with_reducible rfl
                  try simp only [Act.put]
                  refine wpAnyH_take (i := 17) (oi := ⟨some 12, .assign (.tmp 93), 41, "more.go:25", #[⟨15, .data⟩, ⟨13, .chain⟩, ⟨0, .phase⟩, ⟨1, .phase⟩, ⟨2, .phase⟩, ⟨3, .phase⟩, ⟨4, .phase⟩, ⟨5, .phase⟩, ⟨6, .phase⟩, ⟨7, .phase⟩, ⟨8, .phase⟩, ⟨9, .phase⟩, ⟨10, .phase⟩, ⟨11, .phase⟩, ⟨12, .phase⟩, ⟨13, .phase⟩, ⟨14, .phase⟩, ⟨15, .phase⟩, { on := 16, ground := Ground.textOnly Departure.lateStores }], none⟩) (v := ?_) rfl (by kernel_rfl) (by kernel_rfl) (by kernel_rfl) (fun _ _ _ h => h) (Or.inl ⟨by rfl, ?_⟩) (by assumption) ?_
                  rotate_left 1
                  · intro w hSw
                    try dsimp only at hSw
                    go_simp
                    all_goals with_reducible rfl
                  try simp only [Act.put]
                  refine wpAnyH_take (i := 18) (oi := ⟨some 13, .assign (.tmp 94), 25, "more.go:25", #[⟨16, .data⟩, ⟨17, .chain⟩, ⟨0, .phase⟩, ⟨1, .phase⟩, ⟨2, .phase⟩, ⟨3, .phase⟩, ⟨4, .phase⟩, ⟨5, .phase⟩, ⟨6, .phase⟩, ⟨7, .phase⟩, ⟨8, .phase⟩, ⟨9, .phase⟩, ⟨10, .phase⟩, ⟨11, .phase⟩, ⟨12, .phase⟩, ⟨13, .phase⟩, ⟨14, .phase⟩, ⟨15, .phase⟩, ⟨16, .phase⟩, ⟨17, .phase⟩], none⟩) (v := ?_) rfl (by kernel_rfl) (by kernel_rfl) (by kernel_rfl) (fun _ _ _ h => h) (Or.inl ⟨by rfl, ?_⟩) (by assumption) ?_
                  rotate_left 1
                  · intro w hSw
                    try dsimp only at hSw
                    go_simp
                    all_goals with_reducible rfl
                  try simp only [Act.put]
                  refine wpAnyH_done (by kernel_rfl) ?_ _
                  go_wp2_with fail
                  go_meet
                  exact ⟨⟨_, _, _, rfl⟩, ⟨_, rfl, HQ⟩, h170.drop.drop.drop.drop.drop.drop⟩
                · go_simp
                  have F171 := (alloc_at (n := wc.heap.size + 3) (made0 (e := 47) (size := 4) (n := wc.heap.size + 2) (alloc_at (n := wc.heap.size + 1) (alloc_at (n := wc.heap.size) H9.out (.cells #[.string ⟨#[97]⟩, .string ⟨#[97]⟩] 9) rfl) (.cells #[.string ⟨#[65]⟩, .int .i64 3, .string ⟨#[]⟩, .int .i64 0, .int .i64 0, .int .i64 0, .bool false, .bool false, .slice none 0 0, .bool false, .string ⟨#[]⟩, .slice (some ⟨wc.heap.size, 0, none⟩) 2 2, .slice none 0 0, .slice none 0 0, .slice none 0 0, .slice none 0 0] 59) (by simp)) (by simp)) (.cells #[.string (r.n ++ ⟨#[113]⟩), .bool false, .slice none 0 0, .slice (some ⟨wc.heap.size + 1, 0, none⟩) 1 1] 47) (by simp)).drew
                  refine hK.out _ _ ?_ (fun hHeld => ?_)
                  · exact (seven F171).cell 0 rfl
                  clear hK K
                  try simp only [Act.put]
                  refine wpAnyH_ready (rs := [2]) (by kernel_rfl) (by simp) ?_
                  refine AllReadyH.cons (o := ⟨some 81, .call { callee := .builtin .append, args := #[.tmp 79, .tmp 80], argTypes := #[39, 39] }, 39, "more.go:25", #[⟨0, .data⟩, ⟨1, .data⟩], none⟩) rfl (fun K hK => ?_) AllReadyH.nil
                  refine step_app (by rfl) _ _ Try.underlying39 info_mds rfl (by decide) (by rfl) _ (0) ([]) (by rfl) F171.two (by rfl) HX.out.2.1 (fun j u hu => by
                      obtain ⟨ad', e, hc⟩ := HX.out.2.2.1 j u hu
                      exact ⟨ad', e, pw_cell_below F171.below hc⟩) HX.out.2.2.2 (by simp only [maxLen]; omega) (by omega) ?_
                  intro v172 wa173 h174
                  refine hK.out _ _ ?_ (fun hHeld => ?_)
                  · exact (seven h174).cell 0 rfl
                  clear hK K
                  try simp only [Act.put]
                  refine wpAnyH_ready (rs := [12]) (by kernel_rfl) (by simp) ?_
                  refine AllReadyH.cons (o := ⟨some 91, .call { callee := .builtin .append, args := #[.tmp 81, .tmp 90], argTypes := #[39, 39] }, 39, "more.go:25", #[⟨2, .data⟩, ⟨11, .data⟩, ⟨2, .chain⟩], none⟩) rfl (fun K hK => ?_) AllReadyH.nil
                  refine step_app (by rfl) _ _ Try.underlying39 info_mds rfl (by decide) (by rfl) _ (0 + l.length) ([] ++ xa) (by rfl) h174 (by rfl) rfl (fun j u hu => ⟨_, rfl, by rw [Sep.add_plain]; exact h174.two.cell j (by simpa using hu)⟩) (by simp [Value.oneCell']) (by simp only [maxLen]; omega) (by omega) ?_
                  intro v175 wa176 h177
                  refine hK.out _ _ ?_ (fun hHeld => ?_)
                  · exact (seven h177).cell 0 rfl
                  clear hK K
                  try simp only [Act.put]
                  refine wpAnyH_ready (rs := [13]) (by kernel_rfl) (by simp) ?_
                  refine AllReadyH.cons (o := ⟨some 92, .call { callee := .value (.func 19), args := #[.tmp 91], argTypes := #[39] }, 42, "more.go:25", #[⟨12, .data⟩, ⟨12, .chain⟩], none⟩) rfl (fun K hK => ?_) AllReadyH.nil
                  go_simp
                  have hRl := Reps.snoc (HX.out.1.imp_ fun _ _ hp => kMd.K_below h177.below hp) (aa_K (s := r.n) (four h177).block h177.three.block) rfl
                  obtain ⟨A178, c179, rfl, hCl⟩ := row_C (d := kMd) (l := l ++ [aaM r.n]) (by decide) (by simp) h177 hRl
                  refine (resolve_at A178 c179 (l ++ [aaM r.n]) h177 hCl (fun m hm => by
                    rcases List.mem_append.1 hm with hm | hm
                    · exact HA.out.2 m hm
                    · rw [List.mem_singleton.1 hm]; exact aa_o (HNQ.out r HM.out.2.2.2.2))).mono ?_
                  rintro e wr180 ⟨Ax, nx, cx, xx, he, -, -, h181⟩
                  subst he
                  have HQ := Lib.hid (res_aa l r.n)
                  generalize (resP (l ++ [aaM r.n])).1 = r1 at HQ ⊢
                  refine hK.out _ _ ?_ (fun hHeld => ?_)
                  · exact ((h181.drop.drop.drop.drop.drop.drop).three).cell 0 rfl
                  clear hK K
                  try simp only [Act.put]
                  refine wpAnyH_take (i := 14) (oi := ⟨some 78, .move (.tmp 92), 42, "more.go:25", #[⟨13, .data⟩], none⟩) (v := ?_) rfl (by kernel_rfl) (by kernel_rfl) (by kernel_rfl) (fun _ _ _ h => h) (Or.inl ⟨by rfl, ?_⟩) (by assumption) ?_
                  rotate_left 1
                  · intro w hSw
                    try dsimp only at hSw
                    go_simp
                    all_goals with_reducible rfl
                  try simp only [Act.put]
                  refine wpAnyH_take (i := 15) (oi := ⟨some 93, .extract (.tmp 78) 0, 41, "more.go:25", #[⟨14, .data⟩], none⟩) (v := ?_) rfl (by kernel_rfl) (by kernel_rfl) (by kernel_rfl) (fun _ _ _ h => h) (Or.inl ⟨by rfl, ?_⟩) (by assumption) ?_
                  rotate_left 1
                  · intro w hSw
                    try dsimp only at hSw
                    go_simp
                    all_goals with_reducible rfl
                  try simp only [Act.put]
                  refine wpAnyH_take (i := 16) (oi := ⟨some 94, .extract (.tmp 78) 1, 25, "more.go:25", #[⟨14, .data⟩, { on := 17, ground := Ground.gcOnly Departure.lateStores }], none⟩) (v := ?_) rfl (by kernel_rfl) (by kernel_rfl) (by kernel_rfl) (fun _ _ _ h => h) (Or.inl ⟨by rfl, ?_⟩) (by assumption) ?_
                  rotate_left 1
                  · intro w hSw
                    try dsimp only at hSw
                    go_simp
                    all_goals with_reducible rfl
                  try simp only [Act.put]
                  refine wpAnyH_take (i := 17) (oi := ⟨some 12, .assign (.tmp 93), 41, "more.go:25", #[⟨15, .data⟩, ⟨13, .chain⟩, ⟨0, .phase⟩, ⟨1, .phase⟩, ⟨2, .phase⟩, ⟨3, .phase⟩, ⟨4, .phase⟩, ⟨5, .phase⟩, ⟨6, .phase⟩, ⟨7, .phase⟩, ⟨8, .phase⟩, ⟨9, .phase⟩, ⟨10, .phase⟩, ⟨11, .phase⟩, ⟨12, .phase⟩, ⟨13, .phase⟩, ⟨14, .phase⟩, ⟨15, .phase⟩, { on := 16, ground := Ground.textOnly Departure.lateStores }], none⟩) (v := ?_) rfl (by kernel_rfl) (by kernel_rfl) (by kernel_rfl) (fun _ _ _ h => h) (Or.inl ⟨by rfl, ?_⟩) (by assumption) ?_
                  rotate_left 1
                  · intro w hSw
                    try dsimp only at hSw
                    go_simp
                    all_goals with_reducible rfl
                  try simp only [Act.put]
                  refine wpAnyH_take (i := 18) (oi := ⟨some 13, .assign (.tmp 94), 25, "more.go:25", #[⟨16, .data⟩, ⟨17, .chain⟩, ⟨0, .phase⟩, ⟨1, .phase⟩, ⟨2, .phase⟩, ⟨3, .phase⟩, ⟨4, .phase⟩, ⟨5, .phase⟩, ⟨6, .phase⟩, ⟨7, .phase⟩, ⟨8, .phase⟩, ⟨9, .phase⟩, ⟨10, .phase⟩, ⟨11, .phase⟩, ⟨12, .phase⟩, ⟨13, .phase⟩, ⟨14, .phase⟩, ⟨15, .phase⟩, ⟨16, .phase⟩, ⟨17, .phase⟩], none⟩) (v := ?_) rfl (by kernel_rfl) (by kernel_rfl) (by kernel_rfl) (fun _ _ _ h => h) (Or.inl ⟨by rfl, ?_⟩) (by assumption) ?_
                  rotate_left 1
                  · intro w hSw
                    try dsimp only at hSw
                    go_simp
                    all_goals with_reducible rfl
                  try simp only [Act.put]
                  refine wpAnyH_done (by kernel_rfl) ?_ _
                  go_wp2_with fail
                  go_meet
                  exact ⟨⟨_, _, _, rfl⟩, ⟨_, rfl, HQ⟩, h181.drop.drop.drop.drop.drop.drop⟩
              · go_simp
                have F182 := (alloc_at (n := wc.heap.size + 2) (alloc_at (n := wc.heap.size + 1) (alloc_at (n := wc.heap.size) H9.out (.cells #[.string ⟨#[97]⟩, .string ⟨#[97]⟩] 9) rfl) (.cells #[.string ⟨#[65]⟩, .int .i64 3, .string ⟨#[]⟩, .int .i64 0, .int .i64 0, .int .i64 0, .bool false, .bool false, .slice none 0 0, .bool false, .string ⟨#[]⟩, .slice (some ⟨wc.heap.size, 0, none⟩) 2 2, .slice none 0 0, .slice none 0 0, .slice none 0 0, .slice none 0 0] 59) (by simp)) (.cells #[.string (r.n ++ ⟨#[113]⟩), .bool false, .slice none 0 0, .slice (some ⟨wc.heap.size + 1, 0, none⟩) 1 1] 47) (by simp)).drew
                refine hK.out _ _ ?_ (fun hHeld => ?_)
                · exact (six F182).cell 0 rfl
                clear hK K
                try simp only [Act.put]
                refine wpAnyH_ready (rs := [0]) (by kernel_rfl) (by simp) ?_
                refine AllReadyH.cons (o := ⟨some 79, .buildSlice 39 0 #[], 39, "more.go:25", #[], none⟩) rfl (fun K hK => ?_) AllReadyH.nil
                go_simp
                have F183 := (made0 (e := 47) (size := 4) (n := wc.heap.size + 3) (alloc_at (n := wc.heap.size + 2) (alloc_at (n := wc.heap.size + 1) (alloc_at (n := wc.heap.size) H9.out (.cells #[.string ⟨#[97]⟩, .string ⟨#[97]⟩] 9) rfl) (.cells #[.string ⟨#[65]⟩, .int .i64 3, .string ⟨#[]⟩, .int .i64 0, .int .i64 0, .int .i64 0, .bool false, .bool false, .slice none 0 0, .bool false, .string ⟨#[]⟩, .slice (some ⟨wc.heap.size, 0, none⟩) 2 2, .slice none 0 0, .slice none 0 0, .slice none 0 0, .slice none 0 0] 59) (by simp)) (.cells #[.string (r.n ++ ⟨#[113]⟩), .bool false, .slice none 0 0, .slice (some ⟨wc.heap.size + 1, 0, none⟩) 1 1] 47) (by simp)) (by simp)).drew
                refine hK.out _ _ ?_ (fun hHeld => ?_)
                · exact (seven F183).cell 0 rfl
                clear hK K
                try simp only [Act.put]
                refine wpAnyH_ready (rs := [2]) (by kernel_rfl) (by simp) ?_
                refine AllReadyH.cons (o := ⟨some 81, .call { callee := .builtin .append, args := #[.tmp 79, .tmp 80], argTypes := #[39, 39] }, 39, "more.go:25", #[⟨0, .data⟩, ⟨1, .data⟩], none⟩) rfl (fun K hK => ?_) AllReadyH.nil
                refine step_app (by rfl) _ _ Try.underlying39 info_mds rfl (by decide) (by rfl) _ (0) ([]) (by rfl) F183 (by rfl) HX.out.2.1 (fun j u hu => by
                    obtain ⟨ad', e, hc⟩ := HX.out.2.2.1 j u hu
                    exact ⟨ad', e, pw_cell_below F183.below hc⟩) HX.out.2.2.2 (by simp only [maxLen]; omega) (by omega) ?_
                intro v184 wa185 h186
                refine hK.out _ _ ?_ (fun hHeld => ?_)
                · exact (seven h186).cell 0 rfl
                clear hK K
                try simp only [Act.put]
                refine wpAnyH_ready (rs := [12]) (by kernel_rfl) (by simp) ?_
                refine AllReadyH.cons (o := ⟨some 91, .call { callee := .builtin .append, args := #[.tmp 81, .tmp 90], argTypes := #[39, 39] }, 39, "more.go:25", #[⟨2, .data⟩, ⟨11, .data⟩, ⟨2, .chain⟩], none⟩) rfl (fun K hK => ?_) AllReadyH.nil
                refine step_app (by rfl) _ _ Try.underlying39 info_mds rfl (by decide) (by rfl) _ (0 + l.length) ([] ++ xa) (by rfl) h186 (by rfl) rfl (fun j u hu => ⟨_, rfl, by rw [Sep.add_plain]; exact h186.two.cell j (by simpa using hu)⟩) (by simp [Value.oneCell']) (by simp only [maxLen]; omega) (by omega) ?_
                intro v187 wa188 h189
                refine hK.out _ _ ?_ (fun hHeld => ?_)
                · exact (seven h189).cell 0 rfl
                clear hK K
                try simp only [Act.put]
                refine wpAnyH_ready (rs := [13]) (by kernel_rfl) (by simp) ?_
                refine AllReadyH.cons (o := ⟨some 92, .call { callee := .value (.func 19), args := #[.tmp 91], argTypes := #[39] }, 42, "more.go:25", #[⟨12, .data⟩, ⟨12, .chain⟩], none⟩) rfl (fun K hK => ?_) AllReadyH.nil
                go_simp
                have hRl := Reps.snoc (HX.out.1.imp_ fun _ _ hp => kMd.K_below h189.below hp) (aa_K (s := r.n) (four h189).block h189.three.block) rfl
                obtain ⟨A190, c191, rfl, hCl⟩ := row_C (d := kMd) (l := l ++ [aaM r.n]) (by decide) (by simp) h189 hRl
                refine (resolve_at A190 c191 (l ++ [aaM r.n]) h189 hCl (fun m hm => by
                  rcases List.mem_append.1 hm with hm | hm
                  · exact HA.out.2 m hm
                  · rw [List.mem_singleton.1 hm]; exact aa_o (HNQ.out r HM.out.2.2.2.2))).mono ?_
                rintro e wr192 ⟨Ax, nx, cx, xx, he, -, -, h193⟩
                subst he
                have HQ := Lib.hid (res_aa l r.n)
                generalize (resP (l ++ [aaM r.n])).1 = r1 at HQ ⊢
                refine hK.out _ _ ?_ (fun hHeld => ?_)
                · exact ((h193.drop.drop.drop.drop.drop.drop).three).cell 0 rfl
                clear hK K
                try simp only [Act.put]
                refine wpAnyH_take (i := 14) (oi := ⟨some 78, .move (.tmp 92), 42, "more.go:25", #[⟨13, .data⟩], none⟩) (v := ?_) rfl (by kernel_rfl) (by kernel_rfl) (by kernel_rfl) (fun _ _ _ h => h) (Or.inl ⟨by rfl, ?_⟩) (by assumption) ?_
                rotate_left 1
                · intro w hSw
                  try dsimp only at hSw
                  go_simp
                  all_goals with_reducible rfl
                try simp only [Act.put]
                refine wpAnyH_take (i := 15) (oi := ⟨some 93, .extract (.tmp 78) 0, 41, "more.go:25", #[⟨14, .data⟩], none⟩) (v := ?_) rfl (by kernel_rfl) (by kernel_rfl) (by kernel_rfl) (fun _ _ _ h => h) (Or.inl ⟨by rfl, ?_⟩) (by assumption) ?_
                rotate_left 1
                · intro w hSw
                  try dsimp only at hSw
                  go_simp
                  all_goals with_reducible rfl
                try simp only [Act.put]
                refine wpAnyH_take (i := 16) (oi := ⟨some 94, .extract (.tmp 78) 1, 25, "more.go:25", #[⟨14, .data⟩, { on := 17, ground := Ground.gcOnly Departure.lateStores }], none⟩) (v := ?_) rfl (by kernel_rfl) (by kernel_rfl) (by kernel_rfl) (fun _ _ _ h => h) (Or.inl ⟨by rfl, ?_⟩) (by assumption) ?_
                rotate_left 1
                · intro w hSw
                  try dsimp only at hSw
                  go_simp
                  all_goals with_reducible rfl
                try simp only [Act.put]
                refine wpAnyH_take (i := 17) (oi := ⟨some 12, .assign (.tmp 93), 41, "more.go:25", #[⟨15, .data⟩, ⟨13, .chain⟩, ⟨0, .phase⟩, ⟨1, .phase⟩, ⟨2, .phase⟩, ⟨3, .phase⟩, ⟨4, .phase⟩, ⟨5, .phase⟩, ⟨6, .phase⟩, ⟨7, .phase⟩, ⟨8, .phase⟩, ⟨9, .phase⟩, ⟨10, .phase⟩, ⟨11, .phase⟩, ⟨12, .phase⟩, ⟨13, .phase⟩, ⟨14, .phase⟩, ⟨15, .phase⟩, { on := 16, ground := Ground.textOnly Departure.lateStores }], none⟩) (v := ?_) rfl (by kernel_rfl) (by kernel_rfl) (by kernel_rfl) (fun _ _ _ h => h) (Or.inl ⟨by rfl, ?_⟩) (by assumption) ?_
                rotate_left 1
                · intro w hSw
                  try dsimp only at hSw
                  go_simp
                  all_goals with_reducible rfl
                try simp only [Act.put]
                refine wpAnyH_take (i := 18) (oi := ⟨some 13, .assign (.tmp 94), 25, "more.go:25", #[⟨16, .data⟩, ⟨17, .chain⟩, ⟨0, .phase⟩, ⟨1, .phase⟩, ⟨2, .phase⟩, ⟨3, .phase⟩, ⟨4, .phase⟩, ⟨5, .phase⟩, ⟨6, .phase⟩, ⟨7, .phase⟩, ⟨8, .phase⟩, ⟨9, .phase⟩, ⟨10, .phase⟩, ⟨11, .phase⟩, ⟨12, .phase⟩, ⟨13, .phase⟩, ⟨14, .phase⟩, ⟨15, .phase⟩, ⟨16, .phase⟩, ⟨17, .phase⟩], none⟩) (v := ?_) rfl (by kernel_rfl) (by kernel_rfl) (by kernel_rfl) (fun _ _ _ h => h) (Or.inl ⟨by rfl, ?_⟩) (by assumption) ?_
                rotate_left 1
                · intro w hSw
                  try dsimp only at hSw
                  go_simp
                  all_goals with_reducible rfl
                try simp only [Act.put]
                refine wpAnyH_done (by kernel_rfl) ?_ _
                go_wp2_with fail
                go_meet
                exact ⟨⟨_, _, _, rfl⟩, ⟨_, rfl, HQ⟩, h193.drop.drop.drop.drop.drop.drop⟩
        case rest =>
          obtain ⟨⟨A13', n13, c13', rfl⟩, ⟨r1, rfl, HQ⟩, hc⟩ := hcut
          have HA1 := Lib.hid hc
          clear hc H9
          have e0 := HA1.out.cell 0 rfl
          have e1 := HA1.out.cell 1 rfl
          have e2 := HA1.out.cell 2 rfl
          have e3 := HA1.out.cell 3 rfl
          have hdl : (r.df ++ [d]).length = r.df.length + 1 := by simp
          have HK1 : Hid (∀ W, St w0.heap.size w0 W (Blk g2 (.cells #[.string r.n, .bool r.au, .slice A2 r.im.length c2, .slice Ad (r.df.length + 1) cd] 47) • (RowV 59 16 (.slice Ad (r.df.length + 1) cd) (r.df.length + 1) xe • (Blk g (.cells #[.string r.n, .bool r.au, .slice A2 r.im.length c2, .slice (some ad3) r.df.length c3] 47) • R))) → kMd.K W ⟨r.n, r.au, r.im, r.df ++ [d]⟩ [.string r.n, .bool r.au, .slice A2 r.im.length c2, .slice Ad (r.df.length + 1) cd]) := Lib.hid fun W hW => by
            obtain ⟨A, c, e, hC⟩ := row_C (d := kDf) (l := r.df ++ [d]) (by decide) hdl.symm hW.two (HRe.out.imp_ fun _ _ hp => kDf.K_below hW.below hp)
            rw [hdl] at e hC
            simp only [Value.slice.injEq] at e
            obtain ⟨rfl, -, rfl⟩ := e
            obtain ⟨A2', c2', A3', c3', eC, l2, -, -, -⟩ := kMd_open HM.out.1
            simp only [List.cons.injEq, Value.slice.injEq, true_and, and_true] at eC
            obtain ⟨⟨rfl, rfl⟩, -⟩ := eC
            have hcap : (r.df ++ [d]).length ≤ cd := by
              obtain ⟨-, A, c, e, hnc, -⟩ := hW.two.reads
              simp only [Value.slice.injEq] at e
              rw [hdl, e.2.2]
              exact hnc
            have := dd_K (m := r) (d0 := d) l2 (Kd.C_below HM.out.2.1 hW.below) hcap (hdl.symm ▸ hC)
            rwa [hdl] at this
          have HRD := Lib.hid (res_def HZ.out HM.out.2.2.2.2 HD0.out.2 (by omega))
          have HOD := Lib.hid (dd_o (d0 := d) HM.out.2.2.2.1 HD0.out.2 hd40)
          have HB1 := Lib.hid (HA1.out.alloc (.cells #[.string r.n, .bool r.au, .slice A2 r.im.length c2, .slice Ad (r.df.length + 1) cd] 47))
          go_wp2_with fail
          refine (resolve_at (some ⟨wc.heap.size, 0, none⟩) 1 [⟨r.n, r.au, r.im, r.df ++ [d]⟩] HB1.out (blk_C HB1.out.block (Reps.snoc (ps := []) (cs := []) (Reps.none _ _) (HK1.out _ HB1.out.drop |> fun h => h) rfl) (show 1 ≤ 1000 by decide)) (fun m hm => by rw [List.mem_singleton.1 hm]; exact HOD.out)).mono ?_
          rintro e wf ⟨A5, n5, c5, xk5, he, -, -, hf⟩
          rw [HRD.out.2] at he
          subst he
          have HC1 := Lib.hid hf.drop.drop.drop
          clear hf HB1 HA1 e0 e1 e2 e3
          have e0 := HC1.out.cell 0 rfl
          have e1 := HC1.out.cell 1 rfl
          have e2 := HC1.out.cell 2 rfl
          have e3 := HC1.out.cell 3 rfl
          rcases HQ.out with rfl | rfl
          all_goals
            go_wp2_with fail
            refine (rmod_at ⟨r.n, r.au, r.im, r.df ++ [d]⟩ [.string r.n, .bool r.au, .slice A2 r.im.length c2, .slice Ad (r.df.length + 1) cd] HC1.out (HK1.out _ HC1.out) HOD.out).mono ?_
            rintro e wg ⟨rfl, hg⟩
            rw [HRD.out.1]
            have HD1 := Lib.hid hg
            clear hg
            go_wp2
            go_ret
            exact ⟨rfl, HD1.out.drop.drop.drop⟩
end Go.Proofs.Ytbjddomocggjmaa.Sc
