-- PRINTED BY print.sh 35421559b90ae4d0a3588c463048766b98c2df88dd9212a6774a882060cdf62d: not written by this session
import Derived.Test.YtkidoggmlafkgaaPofx0
import Derived.Test.YtkidoggmlafkgaaPofx1
namespace Go.Proofs.Ytkidoggmlafkgaa.Pof
open Go.RowKit Go.Proofs.YtkidoggmlafkgaaW.PrintWords Go.Proofs.YtkidoggmlafkgaaW.PrintLast Go.Proofs.YtkidoggmlafkgaaW.PrintMore
attribute [local go_sem] max2_int min2_int max_two min_two max_three min_three max_four min_four   -- for this text's walks alone
set_option linter.unusedVariables false
set_option linter.unusedSimpArgs false

/-! ### spandrelref11_of: function 42 -/
mutual
def spandrelref11_of.l0 : Nat → List (S32) → List (S32) → Int → List Int → List (S32) → Int → Option ((List (S32)))
  | 0, _, _, _, _, _, _ => none
  | k + 1, x0, x1, x2, x7, x8, x9 => if x9 < (x7.length : Int) then (if 0 ≤ x9 then ((spandrelref11_Has.f k x0 (rd x7 x9)).bind fun t160 => ((spandrelref11_Has.f k x1 (rd x7 x9)).bind fun t162 => (if x2 = 0 then (if t160 = true then (if x2 = 1 then (if t162 = true then (if x2 = 2 then (spandrelref11_of.j1 k x0 x1 x2 x7 x8 x9 (!(!t162))) else (spandrelref11_of.j1 k x0 x1 x2 x7 x8 x9 false)) else (spandrelref11_of.j1 k x0 x1 x2 x7 x8 x9 true)) else (if x2 = 2 then (spandrelref11_of.j1 k x0 x1 x2 x7 x8 x9 (!(!t162))) else (spandrelref11_of.j1 k x0 x1 x2 x7 x8 x9 false))) else (if t162 = true then (if x2 = 1 then (spandrelref11_of.j1 k x0 x1 x2 x7 x8 x9 true) else (if x2 = 2 then (spandrelref11_of.j1 k x0 x1 x2 x7 x8 x9 (!false)) else (spandrelref11_of.j1 k x0 x1 x2 x7 x8 x9 false))) else (spandrelref11_of.j1 k x0 x1 x2 x7 x8 x9 true))) else (if x2 = 1 then (if t160 = true then (if t162 = true then (if x2 = 2 then (spandrelref11_of.j1 k x0 x1 x2 x7 x8 x9 (!(!t162))) else (spandrelref11_of.j1 k x0 x1 x2 x7 x8 x9 false)) else (spandrelref11_of.j1 k x0 x1 x2 x7 x8 x9 true)) else (spandrelref11_of.j1 k x0 x1 x2 x7 x8 x9 true)) else (if x2 = 2 then (if t160 = true then (spandrelref11_of.j1 k x0 x1 x2 x7 x8 x9 (!(!t162))) else (spandrelref11_of.j1 k x0 x1 x2 x7 x8 x9 (!false))) else (spandrelref11_of.j1 k x0 x1 x2 x7 x8 x9 false)))))) else (none)) else (some x8)
def spandrelref11_of.j1 : Nat → List (S32) → List (S32) → Int → List Int → List (S32) → Int → Bool → Option ((List (S32)))
  | 0, _, _, _, _, _, _, _ => none
  | k + 1, x0, x1, x2, x7, x8, x9, x67 => if x67 = true then (spandrelref11_of.l0 k x0 x1 x2 x7 x8 (wrap64 (x9 + 1))) else (if (wrap64 (x9 + 1)) < (x7.length : Int) then (if 0 ≤ (wrap64 (x9 + 1)) then (if (x8.length : Int) > 0 then (if 0 ≤ (wrap64 ((x8.length : Int) - 1)) then (if (wrap64 ((x8.length : Int) - 1)) < (x8.length : Int) then (if 0 ≤ x9 then (if x9 < (x7.length : Int) then (if ((rd_T32 x8 (wrap64 ((x8.length : Int) - 1))).f1) = (wrap64 ((rd x7 x9) - 1)) then (if (rd x7 x9) > (-9223372036854775808) then (spandrelref11_of.l0 k x0 x1 x2 x7 (x8.set ((wrap64 ((x8.length : Int) - 1)) : Int).toNat (⟨(rd_T32 x8 (wrap64 ((x8.length : Int) - 1))).f0, wrap64 ((rd x7 (wrap64 (x9 + 1))) - 1)⟩ : S32)) (wrap64 (x9 + 1))) else (if x8.length < 8796093022208 then (spandrelref11_of.l0 k x0 x1 x2 x7 (x8 ++ [(⟨rd x7 x9, wrap64 ((rd x7 (wrap64 (x9 + 1))) - 1)⟩ : S32)]) (wrap64 (x9 + 1))) else (none))) else (if x8.length < 8796093022208 then (spandrelref11_of.l0 k x0 x1 x2 x7 (x8 ++ [(⟨rd x7 x9, wrap64 ((rd x7 (wrap64 (x9 + 1))) - 1)⟩ : S32)]) (wrap64 (x9 + 1))) else (none))) else (none)) else (none)) else (none)) else (none)) else (if 0 ≤ x9 then (if x9 < (x7.length : Int) then (if x8.length < 8796093022208 then (spandrelref11_of.l0 k x0 x1 x2 x7 (x8 ++ [(⟨rd x7 x9, wrap64 ((rd x7 (wrap64 (x9 + 1))) - 1)⟩ : S32)]) (wrap64 (x9 + 1))) else (none)) else (none)) else (none))) else (none)) else (if (x8.length : Int) > 0 then (if 0 ≤ (wrap64 ((x8.length : Int) - 1)) then (if (wrap64 ((x8.length : Int) - 1)) < (x8.length : Int) then (if 0 ≤ x9 then (if x9 < (x7.length : Int) then (if ((rd_T32 x8 (wrap64 ((x8.length : Int) - 1))).f1) = (wrap64 ((rd x7 x9) - 1)) then (if (rd x7 x9) > (-9223372036854775808) then (spandrelref11_of.l0 k x0 x1 x2 x7 (x8.set ((wrap64 ((x8.length : Int) - 1)) : Int).toNat (⟨(rd_T32 x8 (wrap64 ((x8.length : Int) - 1))).f0, 9223372036854775807⟩ : S32)) (wrap64 (x9 + 1))) else (if x8.length < 8796093022208 then (spandrelref11_of.l0 k x0 x1 x2 x7 (x8 ++ [(⟨rd x7 x9, 9223372036854775807⟩ : S32)]) (wrap64 (x9 + 1))) else (none))) else (if x8.length < 8796093022208 then (spandrelref11_of.l0 k x0 x1 x2 x7 (x8 ++ [(⟨rd x7 x9, 9223372036854775807⟩ : S32)]) (wrap64 (x9 + 1))) else (none))) else (none)) else (none)) else (none)) else (none)) else (if 0 ≤ x9 then (if x9 < (x7.length : Int) then (if x8.length < 8796093022208 then (spandrelref11_of.l0 k x0 x1 x2 x7 (x8 ++ [(⟨rd x7 x9, 9223372036854775807⟩ : S32)]) (wrap64 (x9 + 1))) else (none)) else (none)) else (none))))
end
def spandrelref11_of.f (k : Nat) (l0 : List (S32)) (l1 : List (S32)) (a2 : Int) : Option ((List (S32))) := (spandrelref11_starts.f k (([(-9223372036854775808)] : List Int)) l0).bind fun t153 => ((spandrelref11_starts.f k t153 l1).bind fun t156 => (spandrelref11_of.l0 k l0 l1 a2 t156 ([] : List (S32)) 0))
theorem spandrelref11_of.mono_l : ∀ k, (∀ y0 y1 y2 y3 y4 y5, LeO (spandrelref11_of.l0 k y0 y1 y2 y3 y4 y5) (spandrelref11_of.l0 (k + 1) y0 y1 y2 y3 y4 y5)) ∧ (∀ y0 y1 y2 y3 y4 y5 y6, LeO (spandrelref11_of.j1 k y0 y1 y2 y3 y4 y5 y6) (spandrelref11_of.j1 (k + 1) y0 y1 y2 y3 y4 y5 y6))
  | 0 => ⟨fun _ _ _ _ _ _ r h => by simp [spandrelref11_of.l0] at h, fun _ _ _ _ _ _ _ r h => by simp [spandrelref11_of.j1] at h⟩
  | k + 1 => by
    obtain ⟨ih0, ih1⟩ := spandrelref11_of.mono_l k
    refine ⟨?_, ?_⟩
    · intro y0 y1 y2 y3 y4 y5
      unfold spandrelref11_of.l0
      repeat' first
      | (with_reducible exact ih0 _ _ _ _ _ _)
      | (with_reducible exact ih1 _ _ _ _ _ _ _)
      | (with_reducible exact spandrelref11_Has.mono _ _ _)
      | (with_reducible exact spandrelref11_starts.mono _ _ _)
      | (with_reducible exact LeO.refl _)
      | (with_reducible exact LeO.none _)
      | (with_reducible refine LeO.ite ?_ ?_)
      | (with_reducible refine LeO.bind ?_ (fun _ => ?_))
      | exact ih0 _ _ _ _ _ _
      | exact ih1 _ _ _ _ _ _ _
      | exact spandrelref11_Has.mono _ _ _
      | exact spandrelref11_starts.mono _ _ _
      | exact LeO.none _
      | refine LeO.ite ?_ ?_
      | refine LeO.bind ?_ (fun _ => ?_)
    · intro y0 y1 y2 y3 y4 y5 y6
      unfold spandrelref11_of.j1
      repeat' first
      | (with_reducible exact ih0 _ _ _ _ _ _)
      | (with_reducible exact ih1 _ _ _ _ _ _ _)
      | (with_reducible exact spandrelref11_Has.mono _ _ _)
      | (with_reducible exact spandrelref11_starts.mono _ _ _)
      | (with_reducible exact LeO.refl _)
      | (with_reducible exact LeO.none _)
      | (with_reducible refine LeO.ite ?_ ?_)
      | (with_reducible refine LeO.bind ?_ (fun _ => ?_))
      | exact ih0 _ _ _ _ _ _
      | exact ih1 _ _ _ _ _ _ _
      | exact spandrelref11_Has.mono _ _ _
      | exact spandrelref11_starts.mono _ _ _
      | exact LeO.none _
      | refine LeO.ite ?_ ?_
      | refine LeO.bind ?_ (fun _ => ?_)
theorem spandrelref11_of.mono : ∀ a0 a1 a2 k, LeO (spandrelref11_of.f k a0 a1 a2) (spandrelref11_of.f (k + 1) a0 a1 a2) := by
  intro a0 a1 a2 k
  obtain ⟨ih0, ih1⟩ := spandrelref11_of.mono_l k
  unfold spandrelref11_of.f
  repeat' first
      | (with_reducible exact ih0 _ _ _ _ _ _)
      | (with_reducible exact ih1 _ _ _ _ _ _ _)
      | (with_reducible exact spandrelref11_Has.mono _ _ _)
      | (with_reducible exact spandrelref11_starts.mono _ _ _)
      | (with_reducible exact LeO.refl _)
      | (with_reducible exact LeO.none _)
      | (with_reducible refine LeO.ite ?_ ?_)
      | (with_reducible refine LeO.bind ?_ (fun _ => ?_))
      | exact ih0 _ _ _ _ _ _
      | exact ih1 _ _ _ _ _ _ _
      | exact spandrelref11_Has.mono _ _ _
      | exact spandrelref11_starts.mono _ _ _
      | exact LeO.none _
      | refine LeO.ite ?_ ?_
      | refine LeO.bind ?_ (fun _ => ?_)
set_option maxHeartbeats 8000000 in
set_option maxRecDepth 100000 in
theorem spandrelref11_of.calls (k : Nat) (A0 : Option Addr) (c0 : Nat) (l0 : List (S32)) (A1 : Option Addr) (c1 : Nat) (l1 : List (S32)) (a2 : Int) (r : List (S32)) (w : World) (hr0 : Kd.C k32 w A0 l0.length l0) (hc0 : l0.length ≤ c0) (hr1 : Kd.C k32 w A1 l1.length l1) (hc1 : l1.length ≤ c1) (h : spandrelref11_of.f k l0 l1 a2 = some r) :
    Calls Try.prog 42 #[.slice A0 l0.length c0, .slice A1 l1.length c1, .int .i64 a2] w fun e w' => ∃ v0_ : Value, e = .returned (v0_) ∧ Kd.R k32 32 w' w.heap.size (fun _ => True) v0_ r ∧ Below w.heap.size w w' := by
  have hu32 := Try.underlying32
  have HR0 := Aside0.mk hr0
  have HC0 := Aside0.mk hc0
  clear hr0 hc0
  have HR1 := Aside0.mk hr1
  have HC1 := Aside0.mk hc1
  clear hr1 hc1
  have HB := Aside0.mk (Below.refl w.heap.size w)
  have H : ((spandrelref11_starts.f k (([(-9223372036854775808)] : List Int)) l0).bind fun t153 => ((spandrelref11_starts.f k t153 l1).bind fun t156 => (spandrelref11_of.l0 k l0 l1 a2 t156 ([] : List (S32)) 0))) = some r := h
  clear h
  obtain ⟨y150, hy150⟩ : ∃ y_ : List Int, y_ = (([(-9223372036854775808)] : List Int)) := ⟨_, rfl⟩
  replace H : ((spandrelref11_starts.f k y150 l0).bind fun t153 => ((spandrelref11_starts.f k t153 l1).bind fun t156 => (spandrelref11_of.l0 k l0 l1 a2 t156 ([] : List (S32)) 0))) = some r := by first | (rw [hy150]; with_reducible exact H) | (have H2_ := (Option.bind_some _ _).symm.trans H; rw [hy150]; with_reducible exact H2_) | (have H2_ := (Option.bind_some _ _).symm.trans H; with_reducible exact H2_) | with_reducible exact H | (rw [hy150]; exact H) | exact H
  have Ny150 := Aside0.mk hy150
  clear hy150
  replace H := Option.bind_eq_some_iff.mp H
  obtain ⟨t153, A40, H⟩ := H
  replace H : ((spandrelref11_starts.f k t153 l1).bind fun t156 => (spandrelref11_of.l0 k l0 l1 a2 t156 ([] : List (S32)) 0)) = some r := H
  have A4 := Aside0.mk A40
  clear A40
  replace H := Option.bind_eq_some_iff.mp H
  obtain ⟨t156, A50, H⟩ := H
  replace H : (spandrelref11_of.l0 k l0 l1 a2 t156 ([] : List (S32)) 0) = some r := H
  have A5 := Aside0.mk A50
  clear A50
  have H' := Aside0.mk H
  clear H
  go_enter Try.func42, Try.ntmps42
  go_wp2_with (first | ((with_reducible refine gate_dst (N := 13) rfl ?_); (try (refine gate_guard (by rfl) ?_; dsimp only)); refine Kd.R_lit (Kd.int .i64) _ 3 ?hg (N := 13) ?hd (xs := ([(-9223372036854775808)] : List Int)) (inner := [.int .i64 (-9223372036854775808)]) (ok := fun _ => True) (okp := fun _ => True) ?hr ?hp (fun _ hk => hk) trivial (Below.refl _ _) (Nat.le_refl _) (by simp) ?_; (case hd => rfl); (case hg => rfl); (case hr => first | (go_simp; done) | (go_simp; rfl)); (case hp => exact (Reps.one (show Kd.M (Kd.int .i64) _ _ _ (-9223372036854775808) [.int .i64 (-9223372036854775808)] from rfl) (Reps.none _ _))); intro v151 w6 ho7 hb hg_ hnew_; clear hg_ hnew_; (first | rw [← Ny150.out] at ho7 | (simp only [Int.reduceToNat] at ho7; rw [← Ny150.out] at ho7)); have n0_ := Aside0.mk (Kd.R_lower ho7 (below_size (by repeat (first | (with_reducible first | exact HB.out | apply below_alloc | apply pw_below_drewN | apply below_drew1) | exact HB.out)))); have n1_ := Aside0.mk (below_step (by repeat (first | (with_reducible first | exact HB.out | apply below_alloc | apply pw_below_drewN | apply below_drew1) | exact HB.out)) hb); clear HB; have HO152 := n0_; have HB := n1_; clear n0_ n1_; clear hb ho7; obtain ⟨Ao8, co8, eo8⟩ := Kd.R_slice HO152.out; subst eo8) | (go_at_call 56; (with_reducible refine (spandrelref11_starts.calls k (fun k_ => some k_ = (.slice Ao8 y150.length co8 : Value).ownBlock) (.slice Ao8 y150.length co8) y150 _ _ l0 t153 w _ ?side1 ?side2 ?side3 ?side4 A4.out).mono ?_); (case side1 => repeat (first | (with_reducible first | exact HB.out | apply below_alloc | apply pw_below_drewN | apply below_drew1) | exact HB.out)); (case side2 => exact Kd.R_tight rfl HO152.out); (case side3 => exact Kd.C_kept_came k32_heap HR0.out (by repeat (first | (with_reducible first | exact HB.out | apply below_alloc | apply pw_below_drewN | apply below_drew1) | exact HB.out)) (fun k_ hs_ => (fun e_ => Kd.R_base HO152.out k_ e_.symm) hs_)); (case side4 => exact HC0.out); rintro e w9 ⟨v154, rfl, ho0, hb, hkp⟩; have n0_ := Aside0.mk (Kd.R_mono (ok' := fun k_ => True) ho0 (fun k_ hk_ => trivial)); have n1_ := Aside0.mk (hb); clear HB; clear HO152; have HO155 := n0_; have HB := n1_; clear n0_ n1_; (try clear hb); (try clear hkp); (try clear ho0); obtain ⟨Ao10, co10, eo10⟩ := Kd.R_slice HO155.out; subst eo10) | (go_at_call 56; (with_reducible refine (spandrelref11_starts.calls k (fun k_ => some k_ = (.slice Ao10 t153.length co10 : Value).ownBlock) (.slice Ao10 t153.length co10) t153 _ _ l1 t156 w _ ?side1 ?side2 ?side3 ?side4 A5.out).mono ?_); (case side1 => repeat (first | (with_reducible first | exact HB.out | apply below_alloc | apply pw_below_drewN | apply below_drew1) | exact HB.out)); (case side2 => exact Kd.R_tight rfl HO155.out); (case side3 => exact Kd.C_kept_came k32_heap HR1.out (by repeat (first | (with_reducible first | exact HB.out | apply below_alloc | apply pw_below_drewN | apply below_drew1) | exact HB.out)) (fun k_ hs_ => (fun e_ => Kd.R_base HO155.out k_ e_.symm) hs_)); (case side4 => exact HC1.out); rintro e w11 ⟨v157, rfl, ho0, hb, hkp⟩; have n0_ := Aside0.mk (Kd.R_mono (ok' := fun k_ => True) ho0 (fun k_ hk_ => trivial)); have n1_ := Aside0.mk (hb); clear HB; clear HO155; have HO158 := n0_; have HB := n1_; clear n0_ n1_; (try clear hb); (try clear hkp); (try clear ho0)))
  repeat (go_quiet (first | ((with_reducible refine gate_dst (N := 13) rfl ?_); (try (refine gate_guard (by rfl) ?_; dsimp only)); refine Kd.R_lit (Kd.int .i64) _ 3 ?hg (N := 13) ?hd (xs := ([(-9223372036854775808)] : List Int)) (inner := [.int .i64 (-9223372036854775808)]) (ok := fun _ => True) (okp := fun _ => True) ?hr ?hp (fun _ hk => hk) trivial (Below.refl _ _) (Nat.le_refl _) (by simp) ?_; (case hd => rfl); (case hg => rfl); (case hr => first | (go_simp; done) | (go_simp; rfl)); (case hp => exact (Reps.one (show Kd.M (Kd.int .i64) _ _ _ (-9223372036854775808) [.int .i64 (-9223372036854775808)] from rfl) (Reps.none _ _))); intro v151 w6 ho7 hb hg_ hnew_; clear hg_ hnew_; (first | rw [← Ny150.out] at ho7 | (simp only [Int.reduceToNat] at ho7; rw [← Ny150.out] at ho7)); have n0_ := Aside0.mk (Kd.R_lower ho7 (below_size (by repeat (first | (with_reducible first | exact HB.out | apply below_alloc | apply pw_below_drewN | apply below_drew1) | exact HB.out)))); have n1_ := Aside0.mk (below_step (by repeat (first | (with_reducible first | exact HB.out | apply below_alloc | apply pw_below_drewN | apply below_drew1) | exact HB.out)) hb); clear HB; have HO152 := n0_; have HB := n1_; clear n0_ n1_; clear hb ho7; obtain ⟨Ao8, co8, eo8⟩ := Kd.R_slice HO152.out; subst eo8) | (go_at_call 56; (with_reducible refine (spandrelref11_starts.calls k (fun k_ => some k_ = (.slice Ao8 y150.length co8 : Value).ownBlock) (.slice Ao8 y150.length co8) y150 _ _ l0 t153 w _ ?side1 ?side2 ?side3 ?side4 A4.out).mono ?_); (case side1 => repeat (first | (with_reducible first | exact HB.out | apply below_alloc | apply pw_below_drewN | apply below_drew1) | exact HB.out)); (case side2 => exact Kd.R_tight rfl HO152.out); (case side3 => exact Kd.C_kept_came k32_heap HR0.out (by repeat (first | (with_reducible first | exact HB.out | apply below_alloc | apply pw_below_drewN | apply below_drew1) | exact HB.out)) (fun k_ hs_ => (fun e_ => Kd.R_base HO152.out k_ e_.symm) hs_)); (case side4 => exact HC0.out); rintro e w9 ⟨v154, rfl, ho0, hb, hkp⟩; have n0_ := Aside0.mk (Kd.R_mono (ok' := fun k_ => True) ho0 (fun k_ hk_ => trivial)); have n1_ := Aside0.mk (hb); clear HB; clear HO152; have HO155 := n0_; have HB := n1_; clear n0_ n1_; (try clear hb); (try clear hkp); (try clear ho0); obtain ⟨Ao10, co10, eo10⟩ := Kd.R_slice HO155.out; subst eo10) | (go_at_call 56; (with_reducible refine (spandrelref11_starts.calls k (fun k_ => some k_ = (.slice Ao10 t153.length co10 : Value).ownBlock) (.slice Ao10 t153.length co10) t153 _ _ l1 t156 w _ ?side1 ?side2 ?side3 ?side4 A5.out).mono ?_); (case side1 => repeat (first | (with_reducible first | exact HB.out | apply below_alloc | apply pw_below_drewN | apply below_drew1) | exact HB.out)); (case side2 => exact Kd.R_tight rfl HO155.out); (case side3 => exact Kd.C_kept_came k32_heap HR1.out (by repeat (first | (with_reducible first | exact HB.out | apply below_alloc | apply pw_below_drewN | apply below_drew1) | exact HB.out)) (fun k_ hs_ => (fun e_ => Kd.R_base HO155.out k_ e_.symm) hs_)); (case side4 => exact HC1.out); rintro e w11 ⟨v157, rfl, ho0, hb, hkp⟩; have n0_ := Aside0.mk (Kd.R_mono (ok' := fun k_ => True) ho0 (fun k_ hk_ => trivial)); have n1_ := Aside0.mk (hb); clear HB; clear HO155; have HO158 := n0_; have HB := n1_; clear n0_ n1_; (try clear hb); (try clear hkp); (try clear ho0))); try go_wp2_with (first | ((with_reducible refine gate_dst (N := 13) rfl ?_); (try (refine gate_guard (by rfl) ?_; dsimp only)); refine Kd.R_lit (Kd.int .i64) _ 3 ?hg (N := 13) ?hd (xs := ([(-9223372036854775808)] : List Int)) (inner := [.int .i64 (-9223372036854775808)]) (ok := fun _ => True) (okp := fun _ => True) ?hr ?hp (fun _ hk => hk) trivial (Below.refl _ _) (Nat.le_refl _) (by simp) ?_; (case hd => rfl); (case hg => rfl); (case hr => first | (go_simp; done) | (go_simp; rfl)); (case hp => exact (Reps.one (show Kd.M (Kd.int .i64) _ _ _ (-9223372036854775808) [.int .i64 (-9223372036854775808)] from rfl) (Reps.none _ _))); intro v151 w6 ho7 hb hg_ hnew_; clear hg_ hnew_; (first | rw [← Ny150.out] at ho7 | (simp only [Int.reduceToNat] at ho7; rw [← Ny150.out] at ho7)); have n0_ := Aside0.mk (Kd.R_lower ho7 (below_size (by repeat (first | (with_reducible first | exact HB.out | apply below_alloc | apply pw_below_drewN | apply below_drew1) | exact HB.out)))); have n1_ := Aside0.mk (below_step (by repeat (first | (with_reducible first | exact HB.out | apply below_alloc | apply pw_below_drewN | apply below_drew1) | exact HB.out)) hb); clear HB; have HO152 := n0_; have HB := n1_; clear n0_ n1_; clear hb ho7; obtain ⟨Ao8, co8, eo8⟩ := Kd.R_slice HO152.out; subst eo8) | (go_at_call 56; (with_reducible refine (spandrelref11_starts.calls k (fun k_ => some k_ = (.slice Ao8 y150.length co8 : Value).ownBlock) (.slice Ao8 y150.length co8) y150 _ _ l0 t153 w _ ?side1 ?side2 ?side3 ?side4 A4.out).mono ?_); (case side1 => repeat (first | (with_reducible first | exact HB.out | apply below_alloc | apply pw_below_drewN | apply below_drew1) | exact HB.out)); (case side2 => exact Kd.R_tight rfl HO152.out); (case side3 => exact Kd.C_kept_came k32_heap HR0.out (by repeat (first | (with_reducible first | exact HB.out | apply below_alloc | apply pw_below_drewN | apply below_drew1) | exact HB.out)) (fun k_ hs_ => (fun e_ => Kd.R_base HO152.out k_ e_.symm) hs_)); (case side4 => exact HC0.out); rintro e w9 ⟨v154, rfl, ho0, hb, hkp⟩; have n0_ := Aside0.mk (Kd.R_mono (ok' := fun k_ => True) ho0 (fun k_ hk_ => trivial)); have n1_ := Aside0.mk (hb); clear HB; clear HO152; have HO155 := n0_; have HB := n1_; clear n0_ n1_; (try clear hb); (try clear hkp); (try clear ho0); obtain ⟨Ao10, co10, eo10⟩ := Kd.R_slice HO155.out; subst eo10) | (go_at_call 56; (with_reducible refine (spandrelref11_starts.calls k (fun k_ => some k_ = (.slice Ao10 t153.length co10 : Value).ownBlock) (.slice Ao10 t153.length co10) t153 _ _ l1 t156 w _ ?side1 ?side2 ?side3 ?side4 A5.out).mono ?_); (case side1 => repeat (first | (with_reducible first | exact HB.out | apply below_alloc | apply pw_below_drewN | apply below_drew1) | exact HB.out)); (case side2 => exact Kd.R_tight rfl HO155.out); (case side3 => exact Kd.C_kept_came k32_heap HR1.out (by repeat (first | (with_reducible first | exact HB.out | apply below_alloc | apply pw_below_drewN | apply below_drew1) | exact HB.out)) (fun k_ hs_ => (fun e_ => Kd.R_base HO155.out k_ e_.symm) hs_)); (case side4 => exact HC1.out); rintro e w11 ⟨v157, rfl, ho0, hb, hkp⟩; have n0_ := Aside0.mk (Kd.R_mono (ok' := fun k_ => True) ho0 (fun k_ hk_ => trivial)); have n1_ := Aside0.mk (hb); clear HB; clear HO155; have HO158 := n0_; have HB := n1_; clear n0_ n1_; (try clear hb); (try clear hkp); (try clear ho0))))
  go_loopg [8, 9] k (fun kq v8 v9 w' => ∃ (x8_1 : List (S32)) (x9_1 : Int), v9 = .int .i64 x9_1 ∧ Aside0 (spandrelref11_of.l0 kq l0 l1 a2 t156 x8_1 x9_1 = some r) ∧ Aside0 (kq ≤ k) ∧ Aside0 (Kd.R (Kd.int .i64) 3 w' w.heap.size (fun _ => True) v157 t156) ∧ Aside0 (Kd.R k32 32 w' w.heap.size (fun _ => True) v8 x8_1) ∧ Aside0 (Below w.heap.size w w'))
  case atStart => exact ⟨(([] : List (S32))), (0), (by first | rfl | (simp; done) | (simp [*]; done)), H', ⟨Nat.le_refl _⟩, ⟨by (with_reducible repeat (first | apply Kd.R_alloc | apply Kd.R_drewN | apply Kd.R_drew)); exact HO158.out⟩, ⟨by first | exact Kd.R_nil _ _ _ _ _ | exact Kd.N_nil _ _ _ _ _ | exact Kd.V_nil _ _ _ _ _ | exact Kd.Q_nil _ _ _ _ _ | exact Kd.S_nil _ _ _ _ _⟩, ⟨by repeat (first | (with_reducible first | exact HB.out | apply below_alloc | apply pw_below_drewN | apply below_drew1) | exact HB.out)⟩⟩
  case round =>
    clear H'
    try clear c1
    try clear p2
    try clear c4
    obtain ⟨x8_1, x9_1, rfl, HA, HK1, HO_7, HO_8, HB⟩ := hrel
    cases gk with
    | zero => exact absurd HA.out (by simp [spandrelref11_of.l0])
    | succ k1 =>
      have H := HA.out
      clear HA
      simp only [spandrelref11_of.l0] at H
      by_cases c12 : x9_1 < (t156.length : Int)
      · rw [if_pos c12] at H
        have c12b0 : decide (x9_1 < (t156.length : Int)) = true := decide_eq_true c12
        clear c12
        by_cases c13 : 0 ≤ x9_1
        · rw [if_pos c13] at H
          have c13b0 : decide (0 ≤ x9_1) = true := decide_eq_true c13
          clear c13
          replace H := Option.bind_eq_some_iff.mp H
          obtain ⟨t160, A140, H⟩ := H
          replace H : ((spandrelref11_Has.f k1 l1 (rd t156 x9_1)).bind fun t162 => (if a2 = 0 then (if t160 = true then (if a2 = 1 then (if t162 = true then (if a2 = 2 then (spandrelref11_of.j1 k1 l0 l1 a2 t156 x8_1 x9_1 (!(!t162))) else (spandrelref11_of.j1 k1 l0 l1 a2 t156 x8_1 x9_1 false)) else (spandrelref11_of.j1 k1 l0 l1 a2 t156 x8_1 x9_1 true)) else (if a2 = 2 then (spandrelref11_of.j1 k1 l0 l1 a2 t156 x8_1 x9_1 (!(!t162))) else (spandrelref11_of.j1 k1 l0 l1 a2 t156 x8_1 x9_1 false))) else (if t162 = true then (if a2 = 1 then (spandrelref11_of.j1 k1 l0 l1 a2 t156 x8_1 x9_1 true) else (if a2 = 2 then (spandrelref11_of.j1 k1 l0 l1 a2 t156 x8_1 x9_1 (!false)) else (spandrelref11_of.j1 k1 l0 l1 a2 t156 x8_1 x9_1 false))) else (spandrelref11_of.j1 k1 l0 l1 a2 t156 x8_1 x9_1 true))) else (if a2 = 1 then (if t160 = true then (if t162 = true then (if a2 = 2 then (spandrelref11_of.j1 k1 l0 l1 a2 t156 x8_1 x9_1 (!(!t162))) else (spandrelref11_of.j1 k1 l0 l1 a2 t156 x8_1 x9_1 false)) else (spandrelref11_of.j1 k1 l0 l1 a2 t156 x8_1 x9_1 true)) else (spandrelref11_of.j1 k1 l0 l1 a2 t156 x8_1 x9_1 true)) else (if a2 = 2 then (if t160 = true then (spandrelref11_of.j1 k1 l0 l1 a2 t156 x8_1 x9_1 (!(!t162))) else (spandrelref11_of.j1 k1 l0 l1 a2 t156 x8_1 x9_1 (!false))) else (spandrelref11_of.j1 k1 l0 l1 a2 t156 x8_1 x9_1 false))))) = some r := H
          have A14 := Aside0.mk A140
          clear A140
          replace H := Option.bind_eq_some_iff.mp H
          obtain ⟨t162, A150, H⟩ := H
          replace H : (if a2 = 0 then (if t160 = true then (if a2 = 1 then (if t162 = true then (if a2 = 2 then (spandrelref11_of.j1 k1 l0 l1 a2 t156 x8_1 x9_1 (!(!t162))) else (spandrelref11_of.j1 k1 l0 l1 a2 t156 x8_1 x9_1 false)) else (spandrelref11_of.j1 k1 l0 l1 a2 t156 x8_1 x9_1 true)) else (if a2 = 2 then (spandrelref11_of.j1 k1 l0 l1 a2 t156 x8_1 x9_1 (!(!t162))) else (spandrelref11_of.j1 k1 l0 l1 a2 t156 x8_1 x9_1 false))) else (if t162 = true then (if a2 = 1 then (spandrelref11_of.j1 k1 l0 l1 a2 t156 x8_1 x9_1 true) else (if a2 = 2 then (spandrelref11_of.j1 k1 l0 l1 a2 t156 x8_1 x9_1 (!false)) else (spandrelref11_of.j1 k1 l0 l1 a2 t156 x8_1 x9_1 false))) else (spandrelref11_of.j1 k1 l0 l1 a2 t156 x8_1 x9_1 true))) else (if a2 = 1 then (if t160 = true then (if t162 = true then (if a2 = 2 then (spandrelref11_of.j1 k1 l0 l1 a2 t156 x8_1 x9_1 (!(!t162))) else (spandrelref11_of.j1 k1 l0 l1 a2 t156 x8_1 x9_1 false)) else (spandrelref11_of.j1 k1 l0 l1 a2 t156 x8_1 x9_1 true)) else (spandrelref11_of.j1 k1 l0 l1 a2 t156 x8_1 x9_1 true)) else (if a2 = 2 then (if t160 = true then (spandrelref11_of.j1 k1 l0 l1 a2 t156 x8_1 x9_1 (!(!t162))) else (spandrelref11_of.j1 k1 l0 l1 a2 t156 x8_1 x9_1 (!false))) else (spandrelref11_of.j1 k1 l0 l1 a2 t156 x8_1 x9_1 false)))) = some r := H
          have A15 := Aside0.mk A150
          clear A150
          have HC16 := Aside0.mk H
          clear H
          obtain ⟨Ao17, co17, eo17⟩ := Kd.R_slice HO_7.out
          subst eo17
          have p159 : 0 ≤ (x9_1 : Int) := of_decide_eq_true (by first | (with_reducible assumption) | assumption)
          have q159 : x9_1 < (t156.length : Int) := of_decide_eq_true (by first | (with_reducible assumption) | assumption)
          obtain ⟨ad159, e159, hx159_0⟩ := Kd.at_int (Kd.R_reads' HO_7.out).2.2 x9_1 p159 q159
          cases e159
          replace p159 := eq_true p159
          replace q159 := eq_true q159
          go_upto_region 8 with (first | (go_at_call 20; (with_reducible refine (spandrelref11_Has.calls k1 _ _ l0 (rd t156 x9_1) t160 _ ?side1 ?side2 A14.out).mono ?_); (case side1 => repeat (first | exact (Kd.C_below HR0.out HB.out) | (with_reducible refine Kd.C_alloc ?_ _) | (with_reducible refine Kd.C_drewN ?_ _) | (with_reducible refine Kd.C_drew ?_))); (case side2 => exact HC0.out); rintro e w' ⟨rfl, ⟨nd, rfl⟩⟩; (try first | exact ⟨rfl, _, World.drewN_drewN _ _ _⟩ | exact ⟨rfl, _, Eq.trans (World.drewN_drewN _ _ _) (congrArg (World.drewN _) (Nat.add_assoc _ _ _))⟩); have p161 : 0 ≤ (x9_1 : Int) := of_decide_eq_true (by first | (with_reducible assumption) | assumption); have q161 : x9_1 < (t156.length : Int) := of_decide_eq_true (by first | (with_reducible assumption) | assumption); obtain ⟨ad161, e161, hx161_0⟩ := Kd.at_int (Kd.R_reads' HO_7.out).2.2 x9_1 p161 q161; obtain rfl : ad159 = ad161 := (by injection e161); replace p161 := eq_true p161; replace q161 := eq_true q161) | (go_at_call 20; (with_reducible refine (spandrelref11_Has.calls k1 _ _ l1 (rd t156 x9_1) t162 _ ?side1 ?side2 A15.out).mono ?_); (case side1 => repeat (first | exact (Kd.C_below HR1.out (by repeat (first | (with_reducible first | exact HB.out | apply below_alloc | apply pw_below_drewN | apply below_drew1) | exact HB.out))) | (with_reducible refine Kd.C_alloc ?_ _) | (with_reducible refine Kd.C_drewN ?_ _) | (with_reducible refine Kd.C_drew ?_))); (case side2 => exact HC1.out); rintro e w' ⟨rfl, ⟨nd, rfl⟩⟩; (try first | exact ⟨rfl, _, World.drewN_drewN _ _ _⟩ | exact ⟨rfl, _, Eq.trans (World.drewN_drewN _ _ _) (congrArg (World.drewN _) (Nat.add_assoc _ _ _))⟩)))
          repeat (go_quiet (first | (go_at_call 20; (with_reducible refine (spandrelref11_Has.calls k1 _ _ l0 (rd t156 x9_1) t160 _ ?side1 ?side2 A14.out).mono ?_); (case side1 => repeat (first | exact (Kd.C_below HR0.out HB.out) | (with_reducible refine Kd.C_alloc ?_ _) | (with_reducible refine Kd.C_drewN ?_ _) | (with_reducible refine Kd.C_drew ?_))); (case side2 => exact HC0.out); rintro e w' ⟨rfl, ⟨nd, rfl⟩⟩; (try first | exact ⟨rfl, _, World.drewN_drewN _ _ _⟩ | exact ⟨rfl, _, Eq.trans (World.drewN_drewN _ _ _) (congrArg (World.drewN _) (Nat.add_assoc _ _ _))⟩); have p161 : 0 ≤ (x9_1 : Int) := of_decide_eq_true (by first | (with_reducible assumption) | assumption); have q161 : x9_1 < (t156.length : Int) := of_decide_eq_true (by first | (with_reducible assumption) | assumption); obtain ⟨ad161, e161, hx161_0⟩ := Kd.at_int (Kd.R_reads' HO_7.out).2.2 x9_1 p161 q161; obtain rfl : ad159 = ad161 := (by injection e161); replace p161 := eq_true p161; replace q161 := eq_true q161) | (go_at_call 20; (with_reducible refine (spandrelref11_Has.calls k1 _ _ l1 (rd t156 x9_1) t162 _ ?side1 ?side2 A15.out).mono ?_); (case side1 => repeat (first | exact (Kd.C_below HR1.out (by repeat (first | (with_reducible first | exact HB.out | apply below_alloc | apply pw_below_drewN | apply below_drew1) | exact HB.out))) | (with_reducible refine Kd.C_alloc ?_ _) | (with_reducible refine Kd.C_drewN ?_ _) | (with_reducible refine Kd.C_drew ?_))); (case side2 => exact HC1.out); rintro e w' ⟨rfl, ⟨nd, rfl⟩⟩; (try first | exact ⟨rfl, _, World.drewN_drewN _ _ _⟩ | exact ⟨rfl, _, Eq.trans (World.drewN_drewN _ _ _) (congrArg (World.drewN _) (Nat.add_assoc _ _ _))⟩))); go_upto_region 8 with (first | (go_at_call 20; (with_reducible refine (spandrelref11_Has.calls k1 _ _ l0 (rd t156 x9_1) t160 _ ?side1 ?side2 A14.out).mono ?_); (case side1 => repeat (first | exact (Kd.C_below HR0.out HB.out) | (with_reducible refine Kd.C_alloc ?_ _) | (with_reducible refine Kd.C_drewN ?_ _) | (with_reducible refine Kd.C_drew ?_))); (case side2 => exact HC0.out); rintro e w' ⟨rfl, ⟨nd, rfl⟩⟩; (try first | exact ⟨rfl, _, World.drewN_drewN _ _ _⟩ | exact ⟨rfl, _, Eq.trans (World.drewN_drewN _ _ _) (congrArg (World.drewN _) (Nat.add_assoc _ _ _))⟩); have p161 : 0 ≤ (x9_1 : Int) := of_decide_eq_true (by first | (with_reducible assumption) | assumption); have q161 : x9_1 < (t156.length : Int) := of_decide_eq_true (by first | (with_reducible assumption) | assumption); obtain ⟨ad161, e161, hx161_0⟩ := Kd.at_int (Kd.R_reads' HO_7.out).2.2 x9_1 p161 q161; obtain rfl : ad159 = ad161 := (by injection e161); replace p161 := eq_true p161; replace q161 := eq_true q161) | (go_at_call 20; (with_reducible refine (spandrelref11_Has.calls k1 _ _ l1 (rd t156 x9_1) t162 _ ?side1 ?side2 A15.out).mono ?_); (case side1 => repeat (first | exact (Kd.C_below HR1.out (by repeat (first | (with_reducible first | exact HB.out | apply below_alloc | apply pw_below_drewN | apply below_drew1) | exact HB.out))) | (with_reducible refine Kd.C_alloc ?_ _) | (with_reducible refine Kd.C_drewN ?_ _) | (with_reducible refine Kd.C_drew ?_))); (case side2 => exact HC1.out); rintro e w' ⟨rfl, ⟨nd, rfl⟩⟩; (try first | exact ⟨rfl, _, World.drewN_drewN _ _ _⟩ | exact ⟨rfl, _, Eq.trans (World.drewN_drewN _ _ _) (congrArg (World.drewN _) (Nat.add_assoc _ _ _))⟩))))
          (try simp only [Act.put, List.setIfInBounds_toArray, List.set_cons_zero, List.set_cons_succ])
          go_cut [67] (fun v67 wc => ∃ (kq : Nat) (x67_15 : Bool), v67 = .bool x67_15 ∧ Aside0 (spandrelref11_of.j1 kq l0 l1 a2 t156 x8_1 x9_1 x67_15 = some r) ∧ Aside0 (kq ≤ k1) ∧ Aside0 (Kd.R (Kd.int .i64) 3 wc w.heap.size (fun _ => True) (.slice (some ad159) t156.length co17) t156) ∧ Aside0 (Kd.R k32 32 wc w.heap.size (fun _ => True) u8 x8_1) ∧ Aside0 (Below w.heap.size w wc))
          case first =>
            have H := HC16.out
            clear HC16
            by_cases c18 : a2 = 0
            · rw [if_pos c18] at H
              have c18b0 : (a2 == 0) = true := beq_iff_eq.mpr c18
              have c18b1 : (a2 != 0) = false := bne_eq_false_iff_eq.mpr c18
              clear c18
              (first | rw [c18b0] | (simp only [i64_w, i32_w]; rw [c18b0]) | skip)
              by_cases c19 : t160 = true
              · subst c19
                have H1 : (if a2 = 1 then (if t162 = true then (if a2 = 2 then (spandrelref11_of.j1 k1 l0 l1 a2 t156 x8_1 x9_1 (!(!t162))) else (spandrelref11_of.j1 k1 l0 l1 a2 t156 x8_1 x9_1 false)) else (spandrelref11_of.j1 k1 l0 l1 a2 t156 x8_1 x9_1 true)) else (if a2 = 2 then (spandrelref11_of.j1 k1 l0 l1 a2 t156 x8_1 x9_1 (!(!t162))) else (spandrelref11_of.j1 k1 l0 l1 a2 t156 x8_1 x9_1 false))) = some r := by rw [if_pos rfl] at H; exact H
                clear H
                have H := H1
                clear H1
                by_cases c20 : a2 = 1
                · rw [if_pos c20] at H
                  have c20b0 : (a2 == 1) = true := beq_iff_eq.mpr c20
                  have c20b1 : (a2 != 1) = false := bne_eq_false_iff_eq.mpr c20
                  clear c20
                  by_cases c21 : t162 = true
                  · subst c21
                    have H1 : (if a2 = 2 then (spandrelref11_of.j1 k1 l0 l1 a2 t156 x8_1 x9_1 (!(!true))) else (spandrelref11_of.j1 k1 l0 l1 a2 t156 x8_1 x9_1 false)) = some r := by rw [if_pos rfl] at H; exact H
                    clear H
                    have H := H1
                    clear H1
                    by_cases c22 : a2 = 2
                    · rw [if_pos c22] at H
                      have c22b0 : (a2 == 2) = true := beq_iff_eq.mpr c22
                      have c22b1 : (a2 != 2) = false := bne_eq_false_iff_eq.mpr c22
                      clear c22
                      have H' := Aside0.mk H
                      clear H
                      go_wp2
                      repeat (go_quiet (fail); try go_wp2)
                      go_meet
                      case rel => exact ⟨_, (!(!true)), (by first | rfl | (simp; done) | (simp [*]; done)), H', ⟨by have := HK1.out; first | omega | exact Nat.le_refl _⟩, ⟨by (with_reducible repeat (first | apply Kd.R_alloc | apply Kd.R_drewN | apply Kd.R_drew)); exact HO_7.out⟩, ⟨by (with_reducible repeat (first | apply Kd.R_alloc | apply Kd.R_drewN | apply Kd.R_drew)); exact HO_8.out⟩, ⟨by repeat (first | (with_reducible first | exact HB.out | apply below_alloc | apply pw_below_drewN | apply below_drew1) | exact HB.out)⟩⟩
                    · rw [if_neg c22] at H
                      have c22b0 : (a2 == 2) = false := beq_eq_false_iff_ne.mpr c22
                      have c22b1 : (a2 != 2) = true := bne_iff_ne.mpr c22
                      have H' := Aside0.mk H
                      clear H
                      go_wp2
                      repeat (go_quiet (fail); try go_wp2)
                      go_meet
                      case rel => exact ⟨_, (false), (by first | rfl | (simp; done) | (simp [*]; done)), H', ⟨by have := HK1.out; first | omega | exact Nat.le_refl _⟩, ⟨by (with_reducible repeat (first | apply Kd.R_alloc | apply Kd.R_drewN | apply Kd.R_drew)); exact HO_7.out⟩, ⟨by (with_reducible repeat (first | apply Kd.R_alloc | apply Kd.R_drewN | apply Kd.R_drew)); exact HO_8.out⟩, ⟨by repeat (first | (with_reducible first | exact HB.out | apply below_alloc | apply pw_below_drewN | apply below_drew1) | exact HB.out)⟩⟩
                  · replace c21 := Bool.eq_false_iff.mpr c21
                    subst c21
                    have H1 : (spandrelref11_of.j1 k1 l0 l1 a2 t156 x8_1 x9_1 true) = some r := by rw [if_neg (show ¬ (false = true) by decide)] at H; exact H
                    clear H
                    have H := H1
                    clear H1
                    have H' := Aside0.mk H
                    clear H
                    go_wp2
                    repeat (go_quiet (fail); try go_wp2)
                    go_meet
                    case rel => exact ⟨_, (true), (by first | rfl | (simp; done) | (simp [*]; done)), H', ⟨by have := HK1.out; first | omega | exact Nat.le_refl _⟩, ⟨by (with_reducible repeat (first | apply Kd.R_alloc | apply Kd.R_drewN | apply Kd.R_drew)); exact HO_7.out⟩, ⟨by (with_reducible repeat (first | apply Kd.R_alloc | apply Kd.R_drewN | apply Kd.R_drew)); exact HO_8.out⟩, ⟨by repeat (first | (with_reducible first | exact HB.out | apply below_alloc | apply pw_below_drewN | apply below_drew1) | exact HB.out)⟩⟩
                · rw [if_neg c20] at H
                  have c20b0 : (a2 == 1) = false := beq_eq_false_iff_ne.mpr c20
                  have c20b1 : (a2 != 1) = true := bne_iff_ne.mpr c20
                  by_cases c23 : a2 = 2
                  · rw [if_pos c23] at H
                    have c23b0 : (a2 == 2) = true := beq_iff_eq.mpr c23
                    have c23b1 : (a2 != 2) = false := bne_eq_false_iff_eq.mpr c23
                    clear c23
                    have H' := Aside0.mk H
                    clear H
                    go_wp2
                    repeat (go_quiet (fail); try go_wp2)
                    go_meet
                    case rel => exact ⟨_, (!(!t162)), (by first | rfl | (simp; done) | (simp [*]; done)), H', ⟨by have := HK1.out; first | omega | exact Nat.le_refl _⟩, ⟨by (with_reducible repeat (first | apply Kd.R_alloc | apply Kd.R_drewN | apply Kd.R_drew)); exact HO_7.out⟩, ⟨by (with_reducible repeat (first | apply Kd.R_alloc | apply Kd.R_drewN | apply Kd.R_drew)); exact HO_8.out⟩, ⟨by repeat (first | (with_reducible first | exact HB.out | apply below_alloc | apply pw_below_drewN | apply below_drew1) | exact HB.out)⟩⟩
                  · rw [if_neg c23] at H
                    have c23b0 : (a2 == 2) = false := beq_eq_false_iff_ne.mpr c23
                    have c23b1 : (a2 != 2) = true := bne_iff_ne.mpr c23
                    have H' := Aside0.mk H
                    clear H
                    go_wp2
                    repeat (go_quiet (fail); try go_wp2)
                    go_meet
                    case rel => exact ⟨_, (false), (by first | rfl | (simp; done) | (simp [*]; done)), H', ⟨by have := HK1.out; first | omega | exact Nat.le_refl _⟩, ⟨by (with_reducible repeat (first | apply Kd.R_alloc | apply Kd.R_drewN | apply Kd.R_drew)); exact HO_7.out⟩, ⟨by (with_reducible repeat (first | apply Kd.R_alloc | apply Kd.R_drewN | apply Kd.R_drew)); exact HO_8.out⟩, ⟨by repeat (first | (with_reducible first | exact HB.out | apply below_alloc | apply pw_below_drewN | apply below_drew1) | exact HB.out)⟩⟩
              · replace c19 := Bool.eq_false_iff.mpr c19
                subst c19
                have H1 : (if t162 = true then (if a2 = 1 then (spandrelref11_of.j1 k1 l0 l1 a2 t156 x8_1 x9_1 true) else (if a2 = 2 then (spandrelref11_of.j1 k1 l0 l1 a2 t156 x8_1 x9_1 (!false)) else (spandrelref11_of.j1 k1 l0 l1 a2 t156 x8_1 x9_1 false))) else (spandrelref11_of.j1 k1 l0 l1 a2 t156 x8_1 x9_1 true)) = some r := by rw [if_neg (show ¬ (false = true) by decide)] at H; exact H
                clear H
                have H := H1
                clear H1
                by_cases c24 : t162 = true
                · subst c24
                  have H1 : (if a2 = 1 then (spandrelref11_of.j1 k1 l0 l1 a2 t156 x8_1 x9_1 true) else (if a2 = 2 then (spandrelref11_of.j1 k1 l0 l1 a2 t156 x8_1 x9_1 (!false)) else (spandrelref11_of.j1 k1 l0 l1 a2 t156 x8_1 x9_1 false))) = some r := by rw [if_pos rfl] at H; exact H
                  clear H
                  have H := H1
                  clear H1
                  by_cases c25 : a2 = 1
                  · rw [if_pos c25] at H
                    have c25b0 : (a2 == 1) = true := beq_iff_eq.mpr c25
                    have c25b1 : (a2 != 1) = false := bne_eq_false_iff_eq.mpr c25
                    clear c25
                    have H' := Aside0.mk H
                    clear H
                    go_wp2
                    repeat (go_quiet (fail); try go_wp2)
                    go_meet
                    case rel => exact ⟨_, (true), (by first | rfl | (simp; done) | (simp [*]; done)), H', ⟨by have := HK1.out; first | omega | exact Nat.le_refl _⟩, ⟨by (with_reducible repeat (first | apply Kd.R_alloc | apply Kd.R_drewN | apply Kd.R_drew)); exact HO_7.out⟩, ⟨by (with_reducible repeat (first | apply Kd.R_alloc | apply Kd.R_drewN | apply Kd.R_drew)); exact HO_8.out⟩, ⟨by repeat (first | (with_reducible first | exact HB.out | apply below_alloc | apply pw_below_drewN | apply below_drew1) | exact HB.out)⟩⟩
                  · rw [if_neg c25] at H
                    have c25b0 : (a2 == 1) = false := beq_eq_false_iff_ne.mpr c25
                    have c25b1 : (a2 != 1) = true := bne_iff_ne.mpr c25
                    by_cases c26 : a2 = 2
                    · rw [if_pos c26] at H
                      have c26b0 : (a2 == 2) = true := beq_iff_eq.mpr c26
                      have c26b1 : (a2 != 2) = false := bne_eq_false_iff_eq.mpr c26
                      clear c26
                      have H' := Aside0.mk H
                      clear H
                      go_wp2
                      repeat (go_quiet (fail); try go_wp2)
                      go_meet
                      case rel => exact ⟨_, (!false), (by first | rfl | (simp; done) | (simp [*]; done)), H', ⟨by have := HK1.out; first | omega | exact Nat.le_refl _⟩, ⟨by (with_reducible repeat (first | apply Kd.R_alloc | apply Kd.R_drewN | apply Kd.R_drew)); exact HO_7.out⟩, ⟨by (with_reducible repeat (first | apply Kd.R_alloc | apply Kd.R_drewN | apply Kd.R_drew)); exact HO_8.out⟩, ⟨by repeat (first | (with_reducible first | exact HB.out | apply below_alloc | apply pw_below_drewN | apply below_drew1) | exact HB.out)⟩⟩
                    · rw [if_neg c26] at H
                      have c26b0 : (a2 == 2) = false := beq_eq_false_iff_ne.mpr c26
                      have c26b1 : (a2 != 2) = true := bne_iff_ne.mpr c26
                      have H' := Aside0.mk H
                      clear H
                      go_wp2
                      repeat (go_quiet (fail); try go_wp2)
                      go_meet
                      case rel => exact ⟨_, (false), (by first | rfl | (simp; done) | (simp [*]; done)), H', ⟨by have := HK1.out; first | omega | exact Nat.le_refl _⟩, ⟨by (with_reducible repeat (first | apply Kd.R_alloc | apply Kd.R_drewN | apply Kd.R_drew)); exact HO_7.out⟩, ⟨by (with_reducible repeat (first | apply Kd.R_alloc | apply Kd.R_drewN | apply Kd.R_drew)); exact HO_8.out⟩, ⟨by repeat (first | (with_reducible first | exact HB.out | apply below_alloc | apply pw_below_drewN | apply below_drew1) | exact HB.out)⟩⟩
                · replace c24 := Bool.eq_false_iff.mpr c24
                  subst c24
                  have H1 : (spandrelref11_of.j1 k1 l0 l1 a2 t156 x8_1 x9_1 true) = some r := by rw [if_neg (show ¬ (false = true) by decide)] at H; exact H
                  clear H
                  have H := H1
                  clear H1
                  have H' := Aside0.mk H
                  clear H
                  go_wp2
                  repeat (go_quiet (fail); try go_wp2)
                  go_meet
                  case rel => exact ⟨_, (true), (by first | rfl | (simp; done) | (simp [*]; done)), H', ⟨by have := HK1.out; first | omega | exact Nat.le_refl _⟩, ⟨by (with_reducible repeat (first | apply Kd.R_alloc | apply Kd.R_drewN | apply Kd.R_drew)); exact HO_7.out⟩, ⟨by (with_reducible repeat (first | apply Kd.R_alloc | apply Kd.R_drewN | apply Kd.R_drew)); exact HO_8.out⟩, ⟨by repeat (first | (with_reducible first | exact HB.out | apply below_alloc | apply pw_below_drewN | apply below_drew1) | exact HB.out)⟩⟩
            · rw [if_neg c18] at H
              have c18b0 : (a2 == 0) = false := beq_eq_false_iff_ne.mpr c18
              have c18b1 : (a2 != 0) = true := bne_iff_ne.mpr c18
              (first | rw [c18b0] | (simp only [i64_w, i32_w]; rw [c18b0]) | skip)
              by_cases c27 : a2 = 1
              · rw [if_pos c27] at H
                have c27b0 : (a2 == 1) = true := beq_iff_eq.mpr c27
                have c27b1 : (a2 != 1) = false := bne_eq_false_iff_eq.mpr c27
                clear c27
                by_cases c28 : t160 = true
                · subst c28
                  have H1 : (if t162 = true then (if a2 = 2 then (spandrelref11_of.j1 k1 l0 l1 a2 t156 x8_1 x9_1 (!(!t162))) else (spandrelref11_of.j1 k1 l0 l1 a2 t156 x8_1 x9_1 false)) else (spandrelref11_of.j1 k1 l0 l1 a2 t156 x8_1 x9_1 true)) = some r := by rw [if_pos rfl] at H; exact H
                  clear H
                  have H := H1
                  clear H1
                  by_cases c29 : t162 = true
                  · subst c29
                    have H1 : (if a2 = 2 then (spandrelref11_of.j1 k1 l0 l1 a2 t156 x8_1 x9_1 (!(!true))) else (spandrelref11_of.j1 k1 l0 l1 a2 t156 x8_1 x9_1 false)) = some r := by rw [if_pos rfl] at H; exact H
                    clear H
                    have H := H1
                    clear H1
                    by_cases c30 : a2 = 2
                    · rw [if_pos c30] at H
                      have c30b0 : (a2 == 2) = true := beq_iff_eq.mpr c30
                      have c30b1 : (a2 != 2) = false := bne_eq_false_iff_eq.mpr c30
                      clear c30
                      have H' := Aside0.mk H
                      clear H
                      go_wp2
                      repeat (go_quiet (fail); try go_wp2)
                      go_meet
                      case rel => exact ⟨_, (!(!true)), (by first | rfl | (simp; done) | (simp [*]; done)), H', ⟨by have := HK1.out; first | omega | exact Nat.le_refl _⟩, ⟨by (with_reducible repeat (first | apply Kd.R_alloc | apply Kd.R_drewN | apply Kd.R_drew)); exact HO_7.out⟩, ⟨by (with_reducible repeat (first | apply Kd.R_alloc | apply Kd.R_drewN | apply Kd.R_drew)); exact HO_8.out⟩, ⟨by repeat (first | (with_reducible first | exact HB.out | apply below_alloc | apply pw_below_drewN | apply below_drew1) | exact HB.out)⟩⟩
                    · rw [if_neg c30] at H
                      have c30b0 : (a2 == 2) = false := beq_eq_false_iff_ne.mpr c30
                      have c30b1 : (a2 != 2) = true := bne_iff_ne.mpr c30
                      have H' := Aside0.mk H
                      clear H
                      go_wp2
                      repeat (go_quiet (fail); try go_wp2)
                      go_meet
                      case rel => exact ⟨_, (false), (by first | rfl | (simp; done) | (simp [*]; done)), H', ⟨by have := HK1.out; first | omega | exact Nat.le_refl _⟩, ⟨by (with_reducible repeat (first | apply Kd.R_alloc | apply Kd.R_drewN | apply Kd.R_drew)); exact HO_7.out⟩, ⟨by (with_reducible repeat (first | apply Kd.R_alloc | apply Kd.R_drewN | apply Kd.R_drew)); exact HO_8.out⟩, ⟨by repeat (first | (with_reducible first | exact HB.out | apply below_alloc | apply pw_below_drewN | apply below_drew1) | exact HB.out)⟩⟩
                  · replace c29 := Bool.eq_false_iff.mpr c29
                    subst c29
                    have H1 : (spandrelref11_of.j1 k1 l0 l1 a2 t156 x8_1 x9_1 true) = some r := by rw [if_neg (show ¬ (false = true) by decide)] at H; exact H
                    clear H
                    have H := H1
                    clear H1
                    have H' := Aside0.mk H
                    clear H
                    go_wp2
                    repeat (go_quiet (fail); try go_wp2)
                    go_meet
                    case rel => exact ⟨_, (true), (by first | rfl | (simp; done) | (simp [*]; done)), H', ⟨by have := HK1.out; first | omega | exact Nat.le_refl _⟩, ⟨by (with_reducible repeat (first | apply Kd.R_alloc | apply Kd.R_drewN | apply Kd.R_drew)); exact HO_7.out⟩, ⟨by (with_reducible repeat (first | apply Kd.R_alloc | apply Kd.R_drewN | apply Kd.R_drew)); exact HO_8.out⟩, ⟨by repeat (first | (with_reducible first | exact HB.out | apply below_alloc | apply pw_below_drewN | apply below_drew1) | exact HB.out)⟩⟩
                · replace c28 := Bool.eq_false_iff.mpr c28
                  subst c28
                  have H1 : (spandrelref11_of.j1 k1 l0 l1 a2 t156 x8_1 x9_1 true) = some r := by rw [if_neg (show ¬ (false = true) by decide)] at H; exact H
                  clear H
                  have H := H1
                  clear H1
                  have H' := Aside0.mk H
                  clear H
                  go_wp2
                  repeat (go_quiet (fail); try go_wp2)
                  go_meet
                  case rel => exact ⟨_, (true), (by first | rfl | (simp; done) | (simp [*]; done)), H', ⟨by have := HK1.out; first | omega | exact Nat.le_refl _⟩, ⟨by (with_reducible repeat (first | apply Kd.R_alloc | apply Kd.R_drewN | apply Kd.R_drew)); exact HO_7.out⟩, ⟨by (with_reducible repeat (first | apply Kd.R_alloc | apply Kd.R_drewN | apply Kd.R_drew)); exact HO_8.out⟩, ⟨by repeat (first | (with_reducible first | exact HB.out | apply below_alloc | apply pw_below_drewN | apply below_drew1) | exact HB.out)⟩⟩
              · rw [if_neg c27] at H
                have c27b0 : (a2 == 1) = false := beq_eq_false_iff_ne.mpr c27
                have c27b1 : (a2 != 1) = true := bne_iff_ne.mpr c27
                by_cases c31 : a2 = 2
                · rw [if_pos c31] at H
                  have c31b0 : (a2 == 2) = true := beq_iff_eq.mpr c31
                  have c31b1 : (a2 != 2) = false := bne_eq_false_iff_eq.mpr c31
                  clear c31
                  by_cases c32 : t160 = true
                  · subst c32
                    have H1 : (spandrelref11_of.j1 k1 l0 l1 a2 t156 x8_1 x9_1 (!(!t162))) = some r := by rw [if_pos rfl] at H; exact H
                    clear H
                    have H := H1
                    clear H1
                    have H' := Aside0.mk H
                    clear H
                    go_wp2
                    repeat (go_quiet (fail); try go_wp2)
                    go_meet
                    case rel => exact ⟨_, (!(!t162)), (by first | rfl | (simp; done) | (simp [*]; done)), H', ⟨by have := HK1.out; first | omega | exact Nat.le_refl _⟩, ⟨by (with_reducible repeat (first | apply Kd.R_alloc | apply Kd.R_drewN | apply Kd.R_drew)); exact HO_7.out⟩, ⟨by (with_reducible repeat (first | apply Kd.R_alloc | apply Kd.R_drewN | apply Kd.R_drew)); exact HO_8.out⟩, ⟨by repeat (first | (with_reducible first | exact HB.out | apply below_alloc | apply pw_below_drewN | apply below_drew1) | exact HB.out)⟩⟩
                  · replace c32 := Bool.eq_false_iff.mpr c32
                    subst c32
                    have H1 : (spandrelref11_of.j1 k1 l0 l1 a2 t156 x8_1 x9_1 (!false)) = some r := by rw [if_neg (show ¬ (false = true) by decide)] at H; exact H
                    clear H
                    have H := H1
                    clear H1
                    have H' := Aside0.mk H
                    clear H
                    go_wp2
                    repeat (go_quiet (fail); try go_wp2)
                    go_meet
                    case rel => exact ⟨_, (!false), (by first | rfl | (simp; done) | (simp [*]; done)), H', ⟨by have := HK1.out; first | omega | exact Nat.le_refl _⟩, ⟨by (with_reducible repeat (first | apply Kd.R_alloc | apply Kd.R_drewN | apply Kd.R_drew)); exact HO_7.out⟩, ⟨by (with_reducible repeat (first | apply Kd.R_alloc | apply Kd.R_drewN | apply Kd.R_drew)); exact HO_8.out⟩, ⟨by repeat (first | (with_reducible first | exact HB.out | apply below_alloc | apply pw_below_drewN | apply below_drew1) | exact HB.out)⟩⟩
                · rw [if_neg c31] at H
                  have c31b0 : (a2 == 2) = false := beq_eq_false_iff_ne.mpr c31
                  have c31b1 : (a2 != 2) = true := bne_iff_ne.mpr c31
                  have H' := Aside0.mk H
                  clear H
                  go_wp2
                  repeat (go_quiet (fail); try go_wp2)
                  go_meet
                  case rel => exact ⟨_, (false), (by first | rfl | (simp; done) | (simp [*]; done)), H', ⟨by have := HK1.out; first | omega | exact Nat.le_refl _⟩, ⟨by (with_reducible repeat (first | apply Kd.R_alloc | apply Kd.R_drewN | apply Kd.R_drew)); exact HO_7.out⟩, ⟨by (with_reducible repeat (first | apply Kd.R_alloc | apply Kd.R_drewN | apply Kd.R_drew)); exact HO_8.out⟩, ⟨by repeat (first | (with_reducible first | exact HB.out | apply below_alloc | apply pw_below_drewN | apply below_drew1) | exact HB.out)⟩⟩
          case rest =>
            clear HC16
            try clear c1
            try clear p1
            try clear q1
            try clear hx1
            try clear c2
            try clear p2
            try clear c3
            try clear c4
            try clear c12
            try clear c12b0
            try clear c13
            try clear c13b0
            try clear p15
            try clear q15
            try clear hx15
            try clear p16
            try clear q16
            try clear hx16
            try clear c18
            try clear c18b0
            try clear c18b1
            try clear c19
            try clear c20
            try clear c20b0
            try clear c20b1
            try clear c21
            try clear c22
            try clear c22b0
            try clear c22b1
            try clear c23
            try clear c23b0
            try clear c23b1
            try clear c24
            try clear c25
            try clear c25b0
            try clear c25b1
            try clear c26
            try clear c26b0
            try clear c26b1
            try clear c27
            try clear c27b0
            try clear c27b1
            try clear c28
            try clear c29
            try clear c30
            try clear c30b0
            try clear c30b1
            try clear c31
            try clear c31b0
            try clear c31b1
            try clear c32
            try clear hx159_0
            try clear hx161_0
            try clear p159
            try clear p161
            try clear p2
            try clear q159
            try clear q161
            obtain ⟨kq, x67_15, rfl, HA, HJ15, HO_7, HO_8, HB⟩ := hcut
            cases kq with
            | zero => exact absurd HA.out (by simp [spandrelref11_of.j1])
            | succ kj15 =>
              have H := HA.out
              clear HA
              simp only [spandrelref11_of.j1] at H
              by_cases c33 : x67_15 = true
              · subst c33
                have H1 : (spandrelref11_of.l0 kj15 l0 l1 a2 t156 x8_1 (wrap64 (x9_1 + 1))) = some r := by rw [if_pos rfl] at H; exact H
                clear H
                have H := H1
                clear H1
                have H' := Aside0.mk H
                clear H
                go_wp2
                repeat (go_quiet (fail); try go_wp2)
                go_roundg kj15
                case measure => have := HK1.out; have := HJ15.out; omega
                case rel => exact ⟨(x8_1), (wrap64 (x9_1 + 1)), (by first | rfl | (simp; done) | (simp [*]; done)), H', ⟨by have := HK1.out; have := HJ15.out; omega⟩, ⟨by (with_reducible repeat (first | apply Kd.R_alloc | apply Kd.R_drewN | apply Kd.R_drew)); exact HO_7.out⟩, ⟨by (with_reducible repeat (first | apply Kd.R_alloc | apply Kd.R_drewN | apply Kd.R_drew)); exact HO_8.out⟩, ⟨by repeat (first | (with_reducible first | exact HB.out | apply below_alloc | apply pw_below_drewN | apply below_drew1) | exact HB.out)⟩⟩
              · replace c33 := Bool.eq_false_iff.mpr c33
                subst c33
                have H1 : (if (wrap64 (x9_1 + 1)) < (t156.length : Int) then (if 0 ≤ (wrap64 (x9_1 + 1)) then (if (x8_1.length : Int) > 0 then (if 0 ≤ (wrap64 ((x8_1.length : Int) - 1)) then (if (wrap64 ((x8_1.length : Int) - 1)) < (x8_1.length : Int) then (if 0 ≤ x9_1 then (if x9_1 < (t156.length : Int) then (if ((rd_T32 x8_1 (wrap64 ((x8_1.length : Int) - 1))).f1) = (wrap64 ((rd t156 x9_1) - 1)) then (if (rd t156 x9_1) > (-9223372036854775808) then (spandrelref11_of.l0 kj15 l0 l1 a2 t156 (x8_1.set ((wrap64 ((x8_1.length : Int) - 1)) : Int).toNat (⟨(rd_T32 x8_1 (wrap64 ((x8_1.length : Int) - 1))).f0, wrap64 ((rd t156 (wrap64 (x9_1 + 1))) - 1)⟩ : S32)) (wrap64 (x9_1 + 1))) else (if x8_1.length < 8796093022208 then (spandrelref11_of.l0 kj15 l0 l1 a2 t156 (x8_1 ++ [(⟨rd t156 x9_1, wrap64 ((rd t156 (wrap64 (x9_1 + 1))) - 1)⟩ : S32)]) (wrap64 (x9_1 + 1))) else (none))) else (if x8_1.length < 8796093022208 then (spandrelref11_of.l0 kj15 l0 l1 a2 t156 (x8_1 ++ [(⟨rd t156 x9_1, wrap64 ((rd t156 (wrap64 (x9_1 + 1))) - 1)⟩ : S32)]) (wrap64 (x9_1 + 1))) else (none))) else (none)) else (none)) else (none)) else (none)) else (if 0 ≤ x9_1 then (if x9_1 < (t156.length : Int) then (if x8_1.length < 8796093022208 then (spandrelref11_of.l0 kj15 l0 l1 a2 t156 (x8_1 ++ [(⟨rd t156 x9_1, wrap64 ((rd t156 (wrap64 (x9_1 + 1))) - 1)⟩ : S32)]) (wrap64 (x9_1 + 1))) else (none)) else (none)) else (none))) else (none)) else (if (x8_1.length : Int) > 0 then (if 0 ≤ (wrap64 ((x8_1.length : Int) - 1)) then (if (wrap64 ((x8_1.length : Int) - 1)) < (x8_1.length : Int) then (if 0 ≤ x9_1 then (if x9_1 < (t156.length : Int) then (if ((rd_T32 x8_1 (wrap64 ((x8_1.length : Int) - 1))).f1) = (wrap64 ((rd t156 x9_1) - 1)) then (if (rd t156 x9_1) > (-9223372036854775808) then (spandrelref11_of.l0 kj15 l0 l1 a2 t156 (x8_1.set ((wrap64 ((x8_1.length : Int) - 1)) : Int).toNat (⟨(rd_T32 x8_1 (wrap64 ((x8_1.length : Int) - 1))).f0, 9223372036854775807⟩ : S32)) (wrap64 (x9_1 + 1))) else (if x8_1.length < 8796093022208 then (spandrelref11_of.l0 kj15 l0 l1 a2 t156 (x8_1 ++ [(⟨rd t156 x9_1, 9223372036854775807⟩ : S32)]) (wrap64 (x9_1 + 1))) else (none))) else (if x8_1.length < 8796093022208 then (spandrelref11_of.l0 kj15 l0 l1 a2 t156 (x8_1 ++ [(⟨rd t156 x9_1, 9223372036854775807⟩ : S32)]) (wrap64 (x9_1 + 1))) else (none))) else (none)) else (none)) else (none)) else (none)) else (if 0 ≤ x9_1 then (if x9_1 < (t156.length : Int) then (if x8_1.length < 8796093022208 then (spandrelref11_of.l0 kj15 l0 l1 a2 t156 (x8_1 ++ [(⟨rd t156 x9_1, 9223372036854775807⟩ : S32)]) (wrap64 (x9_1 + 1))) else (none)) else (none)) else (none)))) = some r := by rw [if_neg (show ¬ (false = true) by decide)] at H; exact H
                clear H
                have H := H1
                clear H1
                by_cases c34 : (wrap64 (x9_1 + 1)) < (t156.length : Int)
                · rw [if_pos c34] at H
                  have c34b0 : decide ((wrap64 (x9_1 + 1)) < (t156.length : Int)) = true := decide_eq_true c34
                  clear c34
                  obtain ⟨ji35, hji35⟩ : ∃ j_ : Int, (wrap64 (x9_1 + 1)) = j_ := ⟨_, rfl⟩
                  replace H : (if 0 ≤ (ji35) then (if (x8_1.length : Int) > 0 then (if 0 ≤ (wrap64 ((x8_1.length : Int) - 1)) then (if (wrap64 ((x8_1.length : Int) - 1)) < (x8_1.length : Int) then (if 0 ≤ x9_1 then (if x9_1 < (t156.length : Int) then (if ((rd_T32 x8_1 (wrap64 ((x8_1.length : Int) - 1))).f1) = (wrap64 ((rd t156 x9_1) - 1)) then (if (rd t156 x9_1) > (-9223372036854775808) then (spandrelref11_of.l0 kj15 l0 l1 a2 t156 (x8_1.set ((wrap64 ((x8_1.length : Int) - 1)) : Int).toNat (⟨(rd_T32 x8_1 (wrap64 ((x8_1.length : Int) - 1))).f0, wrap64 ((rd t156 (ji35)) - 1)⟩ : S32)) ji35) else (if x8_1.length < 8796093022208 then (spandrelref11_of.l0 kj15 l0 l1 a2 t156 (x8_1 ++ [(⟨rd t156 x9_1, wrap64 ((rd t156 (ji35)) - 1)⟩ : S32)]) ji35) else (none))) else (if x8_1.length < 8796093022208 then (spandrelref11_of.l0 kj15 l0 l1 a2 t156 (x8_1 ++ [(⟨rd t156 x9_1, wrap64 ((rd t156 (ji35)) - 1)⟩ : S32)]) ji35) else (none))) else (none)) else (none)) else (none)) else (none)) else (if 0 ≤ x9_1 then (if x9_1 < (t156.length : Int) then (if x8_1.length < 8796093022208 then (spandrelref11_of.l0 kj15 l0 l1 a2 t156 (x8_1 ++ [(⟨rd t156 x9_1, wrap64 ((rd t156 (ji35)) - 1)⟩ : S32)]) ji35) else (none)) else (none)) else (none))) else (none)) = some r := by first | (rw [hji35] at H; exact H) | (simp only [hji35] at H ⊢; exact H)
                  (try rw [hji35] at c34b0)
                  have hji35w : (IntKind.i64.wrap (x9_1 + 1)) = ji35 := (i64_w _).trans hji35
                  by_cases c36 : 0 ≤ (ji35)
                  · rw [if_pos c36] at H
                    have c36b0 : decide (0 ≤ (ji35)) = true := decide_eq_true c36
                    clear c36
                    by_cases c37 : (x8_1.length : Int) > 0
                    · rw [if_pos c37] at H
                      have c37b0 : decide (0 < (x8_1.length : Int)) = true := decide_eq_true c37
                      have c37b1 : decide (0 < x8_1.length) = true := decide_eq_true (by omega)
                      clear c37
                      obtain ⟨ji38, hji38⟩ : ∃ j_ : Int, (wrap64 ((x8_1.length : Int) - 1)) = j_ := ⟨_, rfl⟩
                      replace H : (if 0 ≤ (ji38) then (if (ji38) < (x8_1.length : Int) then (if 0 ≤ x9_1 then (if x9_1 < (t156.length : Int) then (if ((rd_T32 x8_1 (ji38)).f1) = (wrap64 ((rd t156 x9_1) - 1)) then (if (rd t156 x9_1) > (-9223372036854775808) then (spandrelref11_of.l0 kj15 l0 l1 a2 t156 (x8_1.set ((ji38) : Int).toNat (⟨(rd_T32 x8_1 (ji38)).f0, wrap64 ((rd t156 (ji35)) - 1)⟩ : S32)) ji35) else (if x8_1.length < 8796093022208 then (spandrelref11_of.l0 kj15 l0 l1 a2 t156 (x8_1 ++ [(⟨rd t156 x9_1, wrap64 ((rd t156 (ji35)) - 1)⟩ : S32)]) ji35) else (none))) else (if x8_1.length < 8796093022208 then (spandrelref11_of.l0 kj15 l0 l1 a2 t156 (x8_1 ++ [(⟨rd t156 x9_1, wrap64 ((rd t156 (ji35)) - 1)⟩ : S32)]) ji35) else (none))) else (none)) else (none)) else (none)) else (none)) = some r := by first | (rw [hji38] at H; exact H) | (simp only [hji38] at H ⊢; exact H)
                      have hji38w : (IntKind.i64.wrap ((x8_1.length : Int) - 1)) = ji38 := (i64_w _).trans hji38
                      by_cases c39 : 0 ≤ (ji38)
                      · rw [if_pos c39] at H
                        have c39b0 : decide (0 ≤ (ji38)) = true := decide_eq_true c39
                        clear c39
                        by_cases c40 : (ji38) < (x8_1.length : Int)
                        · rw [if_pos c40] at H
                          have c40b0 : decide ((ji38) < (x8_1.length : Int)) = true := decide_eq_true c40
                          clear c40
                          by_cases c41 : 0 ≤ x9_1
                          · rw [if_pos c41] at H
                            have c41b0 : decide (0 ≤ x9_1) = true := decide_eq_true c41
                            clear c41
                            by_cases c42 : x9_1 < (t156.length : Int)
                            · rw [if_pos c42] at H
                              have c42b0 : decide (x9_1 < (t156.length : Int)) = true := decide_eq_true c42
                              clear c42
                              by_cases c43 : ((rd_T32 x8_1 (ji38)).f1) = (wrap64 ((rd t156 x9_1) - 1))
                              · rw [if_pos c43] at H
                                have c43b0 : (((rd_T32 x8_1 (ji38)).f1) == (wrap64 ((rd t156 x9_1) - 1))) = true := beq_iff_eq.mpr c43
                                have c43b1 : (((rd_T32 x8_1 (ji38)).f1) != (wrap64 ((rd t156 x9_1) - 1))) = false := bne_eq_false_iff_eq.mpr c43
                                clear c43
                                by_cases c44 : (rd t156 x9_1) > (-9223372036854775808)
                                · rw [if_pos c44] at H
                                  have c44b0 : decide ((-9223372036854775808) < (rd t156 x9_1)) = true := decide_eq_true c44
                                  clear c44
                                  obtain ⟨y167, hy167⟩ : ∃ y_ : List (S32), y_ = (x8_1.set ((ji38) : Int).toNat (⟨(rd_T32 x8_1 (ji38)).f0, wrap64 ((rd t156 (ji35)) - 1)⟩ : S32)) := ⟨_, rfl⟩
                                  replace H : (spandrelref11_of.l0 kj15 l0 l1 a2 t156 y167 ji35) = some r := by first | (rw [hy167]; with_reducible exact H) | (have H2_ := (Option.bind_some _ _).symm.trans H; rw [hy167]; with_reducible exact H2_) | (have H2_ := (Option.bind_some _ _).symm.trans H; with_reducible exact H2_) | with_reducible exact H | (rw [hy167]; exact H) | exact H
                                  have Ny167 := Aside0.mk hy167
                                  clear hy167
                                  have H' := Aside0.mk H
                                  clear H
                                  have p163 : 0 ≤ ((ji35) : Int) := of_decide_eq_true (by first | (with_reducible assumption) | assumption)
                                  have q163 : (ji35) < (t156.length : Int) := of_decide_eq_true (by first | (with_reducible assumption) | assumption)
                                  obtain ⟨ad163, e163, hx163_0⟩ := Kd.at_int (Kd.R_reads' HO_7.out).2.2 (ji35) p163 q163
                                  obtain rfl : ad159 = ad163 := (by injection e163)
                                  replace p163 := eq_true p163
                                  replace q163 := eq_true q163
                                  obtain ⟨Ao46, co46, eo46⟩ := Kd.R_slice HO_8.out
                                  subst eo46
                                  have p164 : 0 ≤ ((ji38) : Int) := of_decide_eq_true (by first | (with_reducible assumption) | assumption)
                                  have q164 : (ji38) < (x8_1.length : Int) := of_decide_eq_true (by first | (with_reducible assumption) | assumption)
                                  obtain ⟨ad164, e164, hx164_0, hx164_1⟩ := at_T32 (Kd.R_reads' HO_8.out).2.2 (ji38) p164 q164
                                  cases e164
                                  replace p164 := eq_true p164
                                  replace q164 := eq_true q164
                                  have p165 : 0 ≤ (x9_1 : Int) := of_decide_eq_true (by first | (with_reducible assumption) | assumption)
                                  have q165 : x9_1 < (t156.length : Int) := of_decide_eq_true (by first | (with_reducible assumption) | assumption)
                                  obtain ⟨ad165, e165, hx165_0⟩ := Kd.at_int (Kd.R_reads' HO_7.out).2.2 x9_1 p165 q165
                                  obtain rfl : ad159 = ad165 := (by injection e165)
                                  replace p165 := eq_true p165
                                  replace q165 := eq_true q165
                                  have p166 : 0 ≤ (x9_1 : Int) := of_decide_eq_true (by first | (with_reducible assumption) | assumption)
                                  have q166 : x9_1 < (t156.length : Int) := of_decide_eq_true (by first | (with_reducible assumption) | assumption)
                                  obtain ⟨ad166, e166, hx166_0⟩ := Kd.at_int (Kd.R_reads' HO_7.out).2.2 x9_1 p166 q166
                                  obtain rfl : ad159 = ad166 := (by injection e166)
                                  replace p166 := eq_true p166
                                  replace q166 := eq_true q166
                                  have p45 : 0 ≤ ((ji38) : Int) := of_decide_eq_true (by first | (with_reducible assumption) | assumption)
                                  have q45 : ((ji38) : Int) < ((x8_1.length : Int) : Int) := of_decide_eq_true (by first | (with_reducible assumption) | assumption)
                                  obtain ⟨go45, co45, eo45, gb45, gl45, cl45, HG45⟩ := Kd.R_form HO_8.out (by omega)
                                  (first | cases eo45 | (injection eo45 with ea_ en_ ec_; (first | subst ea_ | (injection ea_ with ea_; subst ea_)); subst ec_; clear en_))
                                  have GB45 := Aside0.mk gb45
                                  have GG45 := Aside0.mk HG45
                                  clear gb45 gl45 HG45
                                  (first | simp only [add_plain] at hx164_0 | skip)
                                  (first | simp only [add_plain] at hx164_1 | skip)
                                  obtain ⟨ce45, hcl45, hM45, hcc45, hfr45⟩ := Kd.R_elem HO_8.out z32 ((ji38) : Int) p45 q45
                                  obtain rfl := k32_openM hM45
                                  have hx45_0 : wc.cell? ⟨go45, ((ji38) : Int).toNat * 2, none⟩ = some (.int .i64 ((rd_T32 x8_1 (ji38)).f0)) := hcc45 0 _ rfl
                                  have hx45_1 : wc.cell? ⟨go45, ((ji38) : Int).toNat * 2 + 1, none⟩ = some (.int .i64 ((rd_T32 x8_1 (ji38)).f1)) := hcc45 1 _ rfl
                                  have hf45_0 : wc.frozen? ⟨go45, ((ji38) : Int).toNat * 2, none⟩ = false := hfr45 0
                                  have hf45_1 : wc.frozen? ⟨go45, ((ji38) : Int).toNat * 2 + 1, none⟩ = false := hfr45 1
                                  clear hcl45 hcc45 hfr45 hM45
                                  replace p45 := eq_true p45
                                  replace q45 := eq_true q45
                                  have HX47 := Aside0.mk (show Kd.R k32 32 wc w.heap.size (fun _ => True) (.slice (some ⟨go45, 0, none⟩) x8_1.length co46) x8_1 from (by (with_reducible repeat (first | apply Kd.R_alloc | apply Kd.R_drewN | apply Kd.R_drew)); exact HO_8.out))
                                  obtain ⟨ce47, hcl47, hM47, hcc47, hfr47⟩ := Kd.R_elem HX47.out z32 ((ji38) : Int) (of_decide_eq_true (by first | (with_reducible assumption) | assumption)) (by have h_ : ((ji38) : Int) < ((x8_1.length : Int) : Int) := of_decide_eq_true (by first | (with_reducible assumption) | assumption); first | exact h_ | (have e_ := (Kd.R_reads' HO_8.out).1; omega) | simpa using h_)
                                  obtain rfl := k32_openM hM47
                                  have HP47 := Kd.R_seg HX47.out ((ji38) : Int) (of_decide_eq_true (by first | (with_reducible assumption) | assumption)) (by have h_ : ((ji38) : Int) < ((x8_1.length : Int) : Int) := of_decide_eq_true (by first | (with_reducible assumption) | assumption); first | exact h_ | (have e_ := (Kd.R_reads' HO_8.out).1; omega) | simpa using h_) (seg := [.int .i64 (wrap64 ((rd t156 (ji35)) - 1))]) (j := 1) hcl47 hcc47 (show 2 ≤ 2 from by decide) (x' := (⟨(rd_T32 x8_1 (ji38)).f0, wrap64 ((rd t156 (ji35)) - 1)⟩ : S32)) (k32_mkM _ _ _ (⟨(rd_T32 x8_1 (ji38)).f0, wrap64 ((rd t156 (ji35)) - 1)⟩ : S32) ) (fun _ hk => hk)
                                  have hx47_1 := hcc47 1 _ rfl
                                  (try simp only [show (k32).sz = 2 from rfl, Nat.mul_one, Nat.add_zero] at hx47_1)
                                  have hf47_1 := hfr47 1
                                  (try simp only [show (k32).sz = 2 from rfl, Nat.mul_one, Nat.add_zero] at hf47_1)
                                  clear hcl47 hcc47 hfr47 hM47
                                  go_wp2_with (first | ((with_reducible refine gate_store (t := 3) (p := 110) rfl ?_); (try (rw [drewN_self wc]; generalize hq_ : World.drewN wc _ = wc; have n0_ := Aside0.mk (Kd.R_at hq_ HO_7.out); have n1_ := Aside0.mk (Kd.R_at hq_ HO_8.out); have n2_ := Aside0.mk (below_at hq_ HB.out); clear hq_ HO_7 HO_8 HB; have HO_7 := n0_; have HO_8 := n1_; have HB := n2_; clear n0_ n1_ n2_; (try (have HX47 := Aside0.mk (show Kd.R k32 32 wc w.heap.size (fun _ => True) (.slice (some ⟨go45, 0, none⟩) x8_1.length co46) x8_1 from (by (with_reducible repeat (first | apply Kd.R_alloc | apply Kd.R_drewN | apply Kd.R_drew)); exact HO_8.out)))); (try (obtain ⟨ce47, hcl47, hM47, hcc47, hfr47⟩ := Kd.R_elem HX47.out z32 ((ji38) : Int) (of_decide_eq_true (by first | (with_reducible assumption) | assumption)) (by have h_ : ((ji38) : Int) < ((x8_1.length : Int) : Int) := of_decide_eq_true (by first | (with_reducible assumption) | assumption); first | exact h_ | (have e_ := (Kd.R_reads' HO_8.out).1; omega) | simpa using h_))); (try (obtain rfl := k32_openM hM47)); (try (have HP47 := Kd.R_seg HX47.out ((ji38) : Int) (of_decide_eq_true (by first | (with_reducible assumption) | assumption)) (by have h_ : ((ji38) : Int) < ((x8_1.length : Int) : Int) := of_decide_eq_true (by first | (with_reducible assumption) | assumption); first | exact h_ | (have e_ := (Kd.R_reads' HO_8.out).1; omega) | simpa using h_) (seg := [.int .i64 (wrap64 ((rd t156 (ji35)) - 1))]) (j := 1) hcl47 hcc47 (show 2 ≤ 2 from by decide) (x' := (⟨(rd_T32 x8_1 (ji38)).f0, wrap64 ((rd t156 (ji35)) - 1)⟩ : S32)) (k32_mkM _ _ _ (⟨(rd_T32 x8_1 (ji38)).f0, wrap64 ((rd t156 (ji35)) - 1)⟩ : S32) ) (fun _ hk => hk))); (try (have hx47_1 := hcc47 1 _ rfl)); (try (try simp only [show (k32).sz = 2 from rfl, Nat.mul_one, Nat.add_zero] at hx47_1)); (try (have hf47_1 := hfr47 1)); (try (try simp only [show (k32).sz = 2 from rfl, Nat.mul_one, Nat.add_zero] at hf47_1)); (try (clear hcl47 hcc47 hfr47 hM47)))); refine store_event (t := 3) (p := 110) (v := ?vo_w48) (w1 := (wc.setCell ⟨go45, ((ji38) : Int).toNat * 2 + 1, none⟩ (.int .i64 (wrap64 ((rd t156 (ji35)) - 1))))) ?hg ?ho ?hn ?hr ?_; (case ho => rfl); (case hg => rfl); (case hn => rfl); (case hr => first | (go_simp; done) | (go_simp; rfl)); intro w48 hw; have hg : wc.grownBy w48 (some go45) := (by rw [hw]; exact HP47.2); have hp_ : Kd.R k32 32 w48 w.heap.size (fun _ => True) (.slice (some ⟨go45, 0, none⟩) x8_1.length co46) y167 := (by rw [hw, Ny167.out]; exact HP47.1); clear HP47; have n0_ := Aside0.mk (Kd.R_over' (v := (.slice (some ⟨go45, 0, none⟩) x8_1.length co46)) (by (with_reducible repeat (first | apply Kd.R_alloc | apply Kd.R_drewN | apply Kd.R_drew)); exact HO_7.out) (Kd.R_typed HO_8.out) (by decide) hg); have n1_ := Aside0.mk (hp_); have n2_ := Aside0.mk ((by rw [hw]; exact below_set (HB.out) GB45.out : Below w.heap.size w w48)); clear HO_7; clear HO_8; clear HB; have HO_7 := n0_; have HO_8 := n1_; have HB := n2_; clear n0_ n1_ n2_; clear hg hw hp_))
                                  repeat (go_quiet (first | ((with_reducible refine gate_store (t := 3) (p := 110) rfl ?_); (try (rw [drewN_self wc]; generalize hq_ : World.drewN wc _ = wc; have n0_ := Aside0.mk (Kd.R_at hq_ HO_7.out); have n1_ := Aside0.mk (Kd.R_at hq_ HO_8.out); have n2_ := Aside0.mk (below_at hq_ HB.out); clear hq_ HO_7 HO_8 HB; have HO_7 := n0_; have HO_8 := n1_; have HB := n2_; clear n0_ n1_ n2_; (try (have HX47 := Aside0.mk (show Kd.R k32 32 wc w.heap.size (fun _ => True) (.slice (some ⟨go45, 0, none⟩) x8_1.length co46) x8_1 from (by (with_reducible repeat (first | apply Kd.R_alloc | apply Kd.R_drewN | apply Kd.R_drew)); exact HO_8.out)))); (try (obtain ⟨ce47, hcl47, hM47, hcc47, hfr47⟩ := Kd.R_elem HX47.out z32 ((ji38) : Int) (of_decide_eq_true (by first | (with_reducible assumption) | assumption)) (by have h_ : ((ji38) : Int) < ((x8_1.length : Int) : Int) := of_decide_eq_true (by first | (with_reducible assumption) | assumption); first | exact h_ | (have e_ := (Kd.R_reads' HO_8.out).1; omega) | simpa using h_))); (try (obtain rfl := k32_openM hM47)); (try (have HP47 := Kd.R_seg HX47.out ((ji38) : Int) (of_decide_eq_true (by first | (with_reducible assumption) | assumption)) (by have h_ : ((ji38) : Int) < ((x8_1.length : Int) : Int) := of_decide_eq_true (by first | (with_reducible assumption) | assumption); first | exact h_ | (have e_ := (Kd.R_reads' HO_8.out).1; omega) | simpa using h_) (seg := [.int .i64 (wrap64 ((rd t156 (ji35)) - 1))]) (j := 1) hcl47 hcc47 (show 2 ≤ 2 from by decide) (x' := (⟨(rd_T32 x8_1 (ji38)).f0, wrap64 ((rd t156 (ji35)) - 1)⟩ : S32)) (k32_mkM _ _ _ (⟨(rd_T32 x8_1 (ji38)).f0, wrap64 ((rd t156 (ji35)) - 1)⟩ : S32) ) (fun _ hk => hk))); (try (have hx47_1 := hcc47 1 _ rfl)); (try (try simp only [show (k32).sz = 2 from rfl, Nat.mul_one, Nat.add_zero] at hx47_1)); (try (have hf47_1 := hfr47 1)); (try (try simp only [show (k32).sz = 2 from rfl, Nat.mul_one, Nat.add_zero] at hf47_1)); (try (clear hcl47 hcc47 hfr47 hM47)))); refine store_event (t := 3) (p := 110) (v := ?vo_w48) (w1 := (wc.setCell ⟨go45, ((ji38) : Int).toNat * 2 + 1, none⟩ (.int .i64 (wrap64 ((rd t156 (ji35)) - 1))))) ?hg ?ho ?hn ?hr ?_; (case ho => rfl); (case hg => rfl); (case hn => rfl); (case hr => first | (go_simp; done) | (go_simp; rfl)); intro w48 hw; have hg : wc.grownBy w48 (some go45) := (by rw [hw]; exact HP47.2); have hp_ : Kd.R k32 32 w48 w.heap.size (fun _ => True) (.slice (some ⟨go45, 0, none⟩) x8_1.length co46) y167 := (by rw [hw, Ny167.out]; exact HP47.1); clear HP47; have n0_ := Aside0.mk (Kd.R_over' (v := (.slice (some ⟨go45, 0, none⟩) x8_1.length co46)) (by (with_reducible repeat (first | apply Kd.R_alloc | apply Kd.R_drewN | apply Kd.R_drew)); exact HO_7.out) (Kd.R_typed HO_8.out) (by decide) hg); have n1_ := Aside0.mk (hp_); have n2_ := Aside0.mk ((by rw [hw]; exact below_set (HB.out) GB45.out : Below w.heap.size w w48)); clear HO_7; clear HO_8; clear HB; have HO_7 := n0_; have HO_8 := n1_; have HB := n2_; clear n0_ n1_ n2_; clear hg hw hp_)); try go_wp2_with (first | ((with_reducible refine gate_store (t := 3) (p := 110) rfl ?_); (try (rw [drewN_self wc]; generalize hq_ : World.drewN wc _ = wc; have n0_ := Aside0.mk (Kd.R_at hq_ HO_7.out); have n1_ := Aside0.mk (Kd.R_at hq_ HO_8.out); have n2_ := Aside0.mk (below_at hq_ HB.out); clear hq_ HO_7 HO_8 HB; have HO_7 := n0_; have HO_8 := n1_; have HB := n2_; clear n0_ n1_ n2_; (try (have HX47 := Aside0.mk (show Kd.R k32 32 wc w.heap.size (fun _ => True) (.slice (some ⟨go45, 0, none⟩) x8_1.length co46) x8_1 from (by (with_reducible repeat (first | apply Kd.R_alloc | apply Kd.R_drewN | apply Kd.R_drew)); exact HO_8.out)))); (try (obtain ⟨ce47, hcl47, hM47, hcc47, hfr47⟩ := Kd.R_elem HX47.out z32 ((ji38) : Int) (of_decide_eq_true (by first | (with_reducible assumption) | assumption)) (by have h_ : ((ji38) : Int) < ((x8_1.length : Int) : Int) := of_decide_eq_true (by first | (with_reducible assumption) | assumption); first | exact h_ | (have e_ := (Kd.R_reads' HO_8.out).1; omega) | simpa using h_))); (try (obtain rfl := k32_openM hM47)); (try (have HP47 := Kd.R_seg HX47.out ((ji38) : Int) (of_decide_eq_true (by first | (with_reducible assumption) | assumption)) (by have h_ : ((ji38) : Int) < ((x8_1.length : Int) : Int) := of_decide_eq_true (by first | (with_reducible assumption) | assumption); first | exact h_ | (have e_ := (Kd.R_reads' HO_8.out).1; omega) | simpa using h_) (seg := [.int .i64 (wrap64 ((rd t156 (ji35)) - 1))]) (j := 1) hcl47 hcc47 (show 2 ≤ 2 from by decide) (x' := (⟨(rd_T32 x8_1 (ji38)).f0, wrap64 ((rd t156 (ji35)) - 1)⟩ : S32)) (k32_mkM _ _ _ (⟨(rd_T32 x8_1 (ji38)).f0, wrap64 ((rd t156 (ji35)) - 1)⟩ : S32) ) (fun _ hk => hk))); (try (have hx47_1 := hcc47 1 _ rfl)); (try (try simp only [show (k32).sz = 2 from rfl, Nat.mul_one, Nat.add_zero] at hx47_1)); (try (have hf47_1 := hfr47 1)); (try (try simp only [show (k32).sz = 2 from rfl, Nat.mul_one, Nat.add_zero] at hf47_1)); (try (clear hcl47 hcc47 hfr47 hM47)))); refine store_event (t := 3) (p := 110) (v := ?vo_w48) (w1 := (wc.setCell ⟨go45, ((ji38) : Int).toNat * 2 + 1, none⟩ (.int .i64 (wrap64 ((rd t156 (ji35)) - 1))))) ?hg ?ho ?hn ?hr ?_; (case ho => rfl); (case hg => rfl); (case hn => rfl); (case hr => first | (go_simp; done) | (go_simp; rfl)); intro w48 hw; have hg : wc.grownBy w48 (some go45) := (by rw [hw]; exact HP47.2); have hp_ : Kd.R k32 32 w48 w.heap.size (fun _ => True) (.slice (some ⟨go45, 0, none⟩) x8_1.length co46) y167 := (by rw [hw, Ny167.out]; exact HP47.1); clear HP47; have n0_ := Aside0.mk (Kd.R_over' (v := (.slice (some ⟨go45, 0, none⟩) x8_1.length co46)) (by (with_reducible repeat (first | apply Kd.R_alloc | apply Kd.R_drewN | apply Kd.R_drew)); exact HO_7.out) (Kd.R_typed HO_8.out) (by decide) hg); have n1_ := Aside0.mk (hp_); have n2_ := Aside0.mk ((by rw [hw]; exact below_set (HB.out) GB45.out : Below w.heap.size w w48)); clear HO_7; clear HO_8; clear HB; have HO_7 := n0_; have HO_8 := n1_; have HB := n2_; clear n0_ n1_ n2_; clear hg hw hp_)))
                                  go_roundg kj15
                                  case measure => have := HK1.out; have := HJ15.out; omega
                                  case rel => exact ⟨(y167), (ji35), (by first | rfl | (simp; done) | (simp only [← hji35] <;> (first | rfl | simp)) | (simp [*]; done)), H', ⟨by have := HK1.out; have := HJ15.out; omega⟩, ⟨by (with_reducible repeat (first | apply Kd.R_alloc | apply Kd.R_drewN | apply Kd.R_drew)); exact HO_7.out⟩, ⟨by (with_reducible repeat (first | apply Kd.R_alloc | apply Kd.R_drewN | apply Kd.R_drew)); exact HO_8.out⟩, ⟨by repeat (first | (with_reducible first | exact HB.out | apply below_alloc | apply pw_below_drewN | apply below_drew1) | exact HB.out)⟩⟩
                                · rw [if_neg c44] at H
                                  have c44b0 : decide ((-9223372036854775808) < (rd t156 x9_1)) = false := decide_eq_false c44
                                  clear c44
                                  by_cases c49 : x8_1.length < 8796093022208
                                  · rw [if_pos c49] at H
                                    have LMc49 := Aside0.mk c49
                                    clear c49
                                    obtain ⟨y169, hy169⟩ : ∃ y_ : List (S32), y_ = (x8_1 ++ [(⟨rd t156 x9_1, wrap64 ((rd t156 (ji35)) - 1)⟩ : S32)]) := ⟨_, rfl⟩
                                    replace H : (spandrelref11_of.l0 kj15 l0 l1 a2 t156 y169 ji35) = some r := by first | (rw [hy169]; with_reducible exact H) | (have H2_ := (Option.bind_some _ _).symm.trans H; rw [hy169]; with_reducible exact H2_) | (have H2_ := (Option.bind_some _ _).symm.trans H; with_reducible exact H2_) | with_reducible exact H | (rw [hy169]; exact H) | exact H
                                    have Ny169 := Aside0.mk hy169
                                    clear hy169
                                    have H' := Aside0.mk H
                                    clear H
                                    have p163 : 0 ≤ ((ji35) : Int) := of_decide_eq_true (by first | (with_reducible assumption) | assumption)
                                    have q163 : (ji35) < (t156.length : Int) := of_decide_eq_true (by first | (with_reducible assumption) | assumption)
                                    obtain ⟨ad163, e163, hx163_0⟩ := Kd.at_int (Kd.R_reads' HO_7.out).2.2 (ji35) p163 q163
                                    obtain rfl : ad159 = ad163 := (by injection e163)
                                    replace p163 := eq_true p163
                                    replace q163 := eq_true q163
                                    obtain ⟨Ao50, co50, eo50⟩ := Kd.R_slice HO_8.out
                                    subst eo50
                                    have p164 : 0 ≤ ((ji38) : Int) := of_decide_eq_true (by first | (with_reducible assumption) | assumption)
                                    have q164 : (ji38) < (x8_1.length : Int) := of_decide_eq_true (by first | (with_reducible assumption) | assumption)
                                    obtain ⟨ad164, e164, hx164_0, hx164_1⟩ := at_T32 (Kd.R_reads' HO_8.out).2.2 (ji38) p164 q164
                                    cases e164
                                    replace p164 := eq_true p164
                                    replace q164 := eq_true q164
                                    have p165 : 0 ≤ (x9_1 : Int) := of_decide_eq_true (by first | (with_reducible assumption) | assumption)
                                    have q165 : x9_1 < (t156.length : Int) := of_decide_eq_true (by first | (with_reducible assumption) | assumption)
                                    obtain ⟨ad165, e165, hx165_0⟩ := Kd.at_int (Kd.R_reads' HO_7.out).2.2 x9_1 p165 q165
                                    obtain rfl : ad159 = ad165 := (by injection e165)
                                    replace p165 := eq_true p165
                                    replace q165 := eq_true q165
                                    have p166 : 0 ≤ (x9_1 : Int) := of_decide_eq_true (by first | (with_reducible assumption) | assumption)
                                    have q166 : x9_1 < (t156.length : Int) := of_decide_eq_true (by first | (with_reducible assumption) | assumption)
                                    obtain ⟨ad166, e166, hx166_0⟩ := Kd.at_int (Kd.R_reads' HO_7.out).2.2 x9_1 p166 q166
                                    obtain rfl : ad159 = ad166 := (by injection e166)
                                    replace p166 := eq_true p166
                                    replace q166 := eq_true q166
                                    have p168 : 0 ≤ (x9_1 : Int) := of_decide_eq_true (by first | (with_reducible assumption) | assumption)
                                    have q168 : x9_1 < (t156.length : Int) := of_decide_eq_true (by first | (with_reducible assumption) | assumption)
                                    obtain ⟨ad168, e168, hx168_0⟩ := Kd.at_int (Kd.R_reads' HO_7.out).2.2 x9_1 p168 q168
                                    obtain rfl : ad159 = ad168 := (by injection e168)
                                    replace p168 := eq_true p168
                                    replace q168 := eq_true q168
                                    go_wp2_with (first | ((with_reducible refine gate_builtin (b := .append) (xs := #[.tmp 111, .tmp 118]) rfl ?_); (try (refine gate_guard (by rfl) ?_; dsimp only)); at_builtin; refine Kd.R_append k32 (w0 := w) w.heap.size rfl (.tmp 111) (.tmp 118) 22 32 (.agg #[(.int .i64 0), (.int .i64 0)]) 16 rfl Try.underlying22 info32 rfl (by decide) (by omega) (.slice (some ad164) x8_1.length co50) x8_1 (⟨rd t156 x9_1, wrap64 ((rd t156 (ji35)) - 1)⟩ : S32) [.int .i64 (rd t156 x9_1), .int .i64 (wrap64 ((rd t156 (ji35)) - 1))] (fun _ => True) (fun _ => False) rfl rfl ?aP (fun _ hk => hk.elim) ?aF ?aO ?aB ?aS ?aL ?_; (case aP => exact k32_mkM _ _ _ (⟨rd t156 x9_1, wrap64 ((rd t156 (ji35)) - 1)⟩ : S32)); (case aB => exact (by repeat (first | (with_reducible first | exact HB.out | apply below_alloc | apply pw_below_drewN | apply below_drew1) | exact HB.out))); (case aF => exact (fun _ _ => trivial)); (case aO => exact (by (with_reducible repeat (first | apply Kd.R_alloc | apply Kd.R_drewN | apply Kd.R_drew)); exact HO_8.out)); (case aS => exact (below_size (by repeat (first | (with_reducible first | exact HB.out | apply below_alloc | apply pw_below_drewN | apply below_drew1) | exact HB.out)))); (case aL => have := LMc49.out; omega); intro v170 w51 ho hb hg hat; rw [← Ny169.out] at ho; have n0_ := Aside0.mk (Kd.R_over' (by (with_reducible repeat (first | apply Kd.R_alloc | apply Kd.R_drewN | apply Kd.R_drew)); exact HO_7.out) (Kd.R_typed (by (with_reducible repeat (first | apply Kd.R_alloc | apply Kd.R_drewN | apply Kd.R_drew)); exact HO_8.out)) (by decide) hg); have n1_ := Aside0.mk (hb); have n2_ := Aside0.mk (ho); clear HO_7; clear HB; clear HO_8; have HO_7 := n0_; have HB := n1_; have HO171 := n2_; clear n0_ n1_ n2_; clear ho hb hg hat))
                                    repeat (go_quiet (first | ((with_reducible refine gate_builtin (b := .append) (xs := #[.tmp 111, .tmp 118]) rfl ?_); (try (refine gate_guard (by rfl) ?_; dsimp only)); at_builtin; refine Kd.R_append k32 (w0 := w) w.heap.size rfl (.tmp 111) (.tmp 118) 22 32 (.agg #[(.int .i64 0), (.int .i64 0)]) 16 rfl Try.underlying22 info32 rfl (by decide) (by omega) (.slice (some ad164) x8_1.length co50) x8_1 (⟨rd t156 x9_1, wrap64 ((rd t156 (ji35)) - 1)⟩ : S32) [.int .i64 (rd t156 x9_1), .int .i64 (wrap64 ((rd t156 (ji35)) - 1))] (fun _ => True) (fun _ => False) rfl rfl ?aP (fun _ hk => hk.elim) ?aF ?aO ?aB ?aS ?aL ?_; (case aP => exact k32_mkM _ _ _ (⟨rd t156 x9_1, wrap64 ((rd t156 (ji35)) - 1)⟩ : S32)); (case aB => exact (by repeat (first | (with_reducible first | exact HB.out | apply below_alloc | apply pw_below_drewN | apply below_drew1) | exact HB.out))); (case aF => exact (fun _ _ => trivial)); (case aO => exact (by (with_reducible repeat (first | apply Kd.R_alloc | apply Kd.R_drewN | apply Kd.R_drew)); exact HO_8.out)); (case aS => exact (below_size (by repeat (first | (with_reducible first | exact HB.out | apply below_alloc | apply pw_below_drewN | apply below_drew1) | exact HB.out)))); (case aL => have := LMc49.out; omega); intro v170 w51 ho hb hg hat; rw [← Ny169.out] at ho; have n0_ := Aside0.mk (Kd.R_over' (by (with_reducible repeat (first | apply Kd.R_alloc | apply Kd.R_drewN | apply Kd.R_drew)); exact HO_7.out) (Kd.R_typed (by (with_reducible repeat (first | apply Kd.R_alloc | apply Kd.R_drewN | apply Kd.R_drew)); exact HO_8.out)) (by decide) hg); have n1_ := Aside0.mk (hb); have n2_ := Aside0.mk (ho); clear HO_7; clear HB; clear HO_8; have HO_7 := n0_; have HB := n1_; have HO171 := n2_; clear n0_ n1_ n2_; clear ho hb hg hat)); try go_wp2_with (first | ((with_reducible refine gate_builtin (b := .append) (xs := #[.tmp 111, .tmp 118]) rfl ?_); (try (refine gate_guard (by rfl) ?_; dsimp only)); at_builtin; refine Kd.R_append k32 (w0 := w) w.heap.size rfl (.tmp 111) (.tmp 118) 22 32 (.agg #[(.int .i64 0), (.int .i64 0)]) 16 rfl Try.underlying22 info32 rfl (by decide) (by omega) (.slice (some ad164) x8_1.length co50) x8_1 (⟨rd t156 x9_1, wrap64 ((rd t156 (ji35)) - 1)⟩ : S32) [.int .i64 (rd t156 x9_1), .int .i64 (wrap64 ((rd t156 (ji35)) - 1))] (fun _ => True) (fun _ => False) rfl rfl ?aP (fun _ hk => hk.elim) ?aF ?aO ?aB ?aS ?aL ?_; (case aP => exact k32_mkM _ _ _ (⟨rd t156 x9_1, wrap64 ((rd t156 (ji35)) - 1)⟩ : S32)); (case aB => exact (by repeat (first | (with_reducible first | exact HB.out | apply below_alloc | apply pw_below_drewN | apply below_drew1) | exact HB.out))); (case aF => exact (fun _ _ => trivial)); (case aO => exact (by (with_reducible repeat (first | apply Kd.R_alloc | apply Kd.R_drewN | apply Kd.R_drew)); exact HO_8.out)); (case aS => exact (below_size (by repeat (first | (with_reducible first | exact HB.out | apply below_alloc | apply pw_below_drewN | apply below_drew1) | exact HB.out)))); (case aL => have := LMc49.out; omega); intro v170 w51 ho hb hg hat; rw [← Ny169.out] at ho; have n0_ := Aside0.mk (Kd.R_over' (by (with_reducible repeat (first | apply Kd.R_alloc | apply Kd.R_drewN | apply Kd.R_drew)); exact HO_7.out) (Kd.R_typed (by (with_reducible repeat (first | apply Kd.R_alloc | apply Kd.R_drewN | apply Kd.R_drew)); exact HO_8.out)) (by decide) hg); have n1_ := Aside0.mk (hb); have n2_ := Aside0.mk (ho); clear HO_7; clear HB; clear HO_8; have HO_7 := n0_; have HB := n1_; have HO171 := n2_; clear n0_ n1_ n2_; clear ho hb hg hat)))
                                    go_roundg kj15
                                    case measure => have := HK1.out; have := HJ15.out; omega
                                    case rel => exact ⟨(y169), (ji35), (by first | rfl | (simp; done) | (simp only [← hji35] <;> (first | rfl | simp)) | (simp [*]; done)), H', ⟨by have := HK1.out; have := HJ15.out; omega⟩, ⟨by (with_reducible repeat (first | apply Kd.R_alloc | apply Kd.R_drewN | apply Kd.R_drew)); exact HO_7.out⟩, ⟨by (with_reducible repeat (first | apply Kd.R_alloc | apply Kd.R_drewN | apply Kd.R_drew)); exact HO171.out⟩, ⟨by repeat (first | (with_reducible first | exact HB.out | apply below_alloc | apply pw_below_drewN | apply below_drew1) | exact HB.out)⟩⟩
                                  · rw [if_neg c49] at H
                                    exact absurd H (by simp)
                              · rw [if_neg c43] at H
                                have c43b0 : (((rd_T32 x8_1 (ji38)).f1) == (wrap64 ((rd t156 x9_1) - 1))) = false := beq_eq_false_iff_ne.mpr c43
                                have c43b1 : (((rd_T32 x8_1 (ji38)).f1) != (wrap64 ((rd t156 x9_1) - 1))) = true := bne_iff_ne.mpr c43
                                by_cases c52 : x8_1.length < 8796093022208
                                · rw [if_pos c52] at H
                                  have LMc52 := Aside0.mk c52
                                  clear c52
                                  obtain ⟨y173, hy173⟩ : ∃ y_ : List (S32), y_ = (x8_1 ++ [(⟨rd t156 x9_1, wrap64 ((rd t156 (ji35)) - 1)⟩ : S32)]) := ⟨_, rfl⟩
                                  replace H : (spandrelref11_of.l0 kj15 l0 l1 a2 t156 y173 ji35) = some r := by first | (rw [hy173]; with_reducible exact H) | (have H2_ := (Option.bind_some _ _).symm.trans H; rw [hy173]; with_reducible exact H2_) | (have H2_ := (Option.bind_some _ _).symm.trans H; with_reducible exact H2_) | with_reducible exact H | (rw [hy173]; exact H) | exact H
                                  have Ny173 := Aside0.mk hy173
                                  clear hy173
                                  have H' := Aside0.mk H
                                  clear H
                                  have p163 : 0 ≤ ((ji35) : Int) := of_decide_eq_true (by first | (with_reducible assumption) | assumption)
                                  have q163 : (ji35) < (t156.length : Int) := of_decide_eq_true (by first | (with_reducible assumption) | assumption)
                                  obtain ⟨ad163, e163, hx163_0⟩ := Kd.at_int (Kd.R_reads' HO_7.out).2.2 (ji35) p163 q163
                                  obtain rfl : ad159 = ad163 := (by injection e163)
                                  replace p163 := eq_true p163
                                  replace q163 := eq_true q163
                                  obtain ⟨Ao53, co53, eo53⟩ := Kd.R_slice HO_8.out
                                  subst eo53
                                  have p164 : 0 ≤ ((ji38) : Int) := of_decide_eq_true (by first | (with_reducible assumption) | assumption)
                                  have q164 : (ji38) < (x8_1.length : Int) := of_decide_eq_true (by first | (with_reducible assumption) | assumption)
                                  obtain ⟨ad164, e164, hx164_0, hx164_1⟩ := at_T32 (Kd.R_reads' HO_8.out).2.2 (ji38) p164 q164
                                  cases e164
                                  replace p164 := eq_true p164
                                  replace q164 := eq_true q164
                                  have p165 : 0 ≤ (x9_1 : Int) := of_decide_eq_true (by first | (with_reducible assumption) | assumption)
                                  have q165 : x9_1 < (t156.length : Int) := of_decide_eq_true (by first | (with_reducible assumption) | assumption)
                                  obtain ⟨ad165, e165, hx165_0⟩ := Kd.at_int (Kd.R_reads' HO_7.out).2.2 x9_1 p165 q165
                                  obtain rfl : ad159 = ad165 := (by injection e165)
                                  replace p165 := eq_true p165
                                  replace q165 := eq_true q165
                                  have p172 : 0 ≤ (x9_1 : Int) := of_decide_eq_true (by first | (with_reducible assumption) | assumption)
                                  have q172 : x9_1 < (t156.length : Int) := of_decide_eq_true (by first | (with_reducible assumption) | assumption)
                                  obtain ⟨ad172, e172, hx172_0⟩ := Kd.at_int (Kd.R_reads' HO_7.out).2.2 x9_1 p172 q172
                                  obtain rfl : ad159 = ad172 := (by injection e172)
                                  replace p172 := eq_true p172
                                  replace q172 := eq_true q172
                                  go_wp2_with (first | ((with_reducible refine gate_builtin (b := .append) (xs := #[.tmp 111, .tmp 118]) rfl ?_); (try (refine gate_guard (by rfl) ?_; dsimp only)); at_builtin; refine Kd.R_append k32 (w0 := w) w.heap.size rfl (.tmp 111) (.tmp 118) 22 32 (.agg #[(.int .i64 0), (.int .i64 0)]) 16 rfl Try.underlying22 info32 rfl (by decide) (by omega) (.slice (some ad164) x8_1.length co53) x8_1 (⟨rd t156 x9_1, wrap64 ((rd t156 (ji35)) - 1)⟩ : S32) [.int .i64 (rd t156 x9_1), .int .i64 (wrap64 ((rd t156 (ji35)) - 1))] (fun _ => True) (fun _ => False) rfl rfl ?aP (fun _ hk => hk.elim) ?aF ?aO ?aB ?aS ?aL ?_; (case aP => exact k32_mkM _ _ _ (⟨rd t156 x9_1, wrap64 ((rd t156 (ji35)) - 1)⟩ : S32)); (case aB => exact (by repeat (first | (with_reducible first | exact HB.out | apply below_alloc | apply pw_below_drewN | apply below_drew1) | exact HB.out))); (case aF => exact (fun _ _ => trivial)); (case aO => exact (by (with_reducible repeat (first | apply Kd.R_alloc | apply Kd.R_drewN | apply Kd.R_drew)); exact HO_8.out)); (case aS => exact (below_size (by repeat (first | (with_reducible first | exact HB.out | apply below_alloc | apply pw_below_drewN | apply below_drew1) | exact HB.out)))); (case aL => have := LMc52.out; omega); intro v174 w54 ho hb hg hat; rw [← Ny173.out] at ho; have n0_ := Aside0.mk (Kd.R_over' (by (with_reducible repeat (first | apply Kd.R_alloc | apply Kd.R_drewN | apply Kd.R_drew)); exact HO_7.out) (Kd.R_typed (by (with_reducible repeat (first | apply Kd.R_alloc | apply Kd.R_drewN | apply Kd.R_drew)); exact HO_8.out)) (by decide) hg); have n1_ := Aside0.mk (hb); have n2_ := Aside0.mk (ho); clear HO_7; clear HB; clear HO_8; have HO_7 := n0_; have HB := n1_; have HO175 := n2_; clear n0_ n1_ n2_; clear ho hb hg hat))
                                  repeat (go_quiet (first | ((with_reducible refine gate_builtin (b := .append) (xs := #[.tmp 111, .tmp 118]) rfl ?_); (try (refine gate_guard (by rfl) ?_; dsimp only)); at_builtin; refine Kd.R_append k32 (w0 := w) w.heap.size rfl (.tmp 111) (.tmp 118) 22 32 (.agg #[(.int .i64 0), (.int .i64 0)]) 16 rfl Try.underlying22 info32 rfl (by decide) (by omega) (.slice (some ad164) x8_1.length co53) x8_1 (⟨rd t156 x9_1, wrap64 ((rd t156 (ji35)) - 1)⟩ : S32) [.int .i64 (rd t156 x9_1), .int .i64 (wrap64 ((rd t156 (ji35)) - 1))] (fun _ => True) (fun _ => False) rfl rfl ?aP (fun _ hk => hk.elim) ?aF ?aO ?aB ?aS ?aL ?_; (case aP => exact k32_mkM _ _ _ (⟨rd t156 x9_1, wrap64 ((rd t156 (ji35)) - 1)⟩ : S32)); (case aB => exact (by repeat (first | (with_reducible first | exact HB.out | apply below_alloc | apply pw_below_drewN | apply below_drew1) | exact HB.out))); (case aF => exact (fun _ _ => trivial)); (case aO => exact (by (with_reducible repeat (first | apply Kd.R_alloc | apply Kd.R_drewN | apply Kd.R_drew)); exact HO_8.out)); (case aS => exact (below_size (by repeat (first | (with_reducible first | exact HB.out | apply below_alloc | apply pw_below_drewN | apply below_drew1) | exact HB.out)))); (case aL => have := LMc52.out; omega); intro v174 w54 ho hb hg hat; rw [← Ny173.out] at ho; have n0_ := Aside0.mk (Kd.R_over' (by (with_reducible repeat (first | apply Kd.R_alloc | apply Kd.R_drewN | apply Kd.R_drew)); exact HO_7.out) (Kd.R_typed (by (with_reducible repeat (first | apply Kd.R_alloc | apply Kd.R_drewN | apply Kd.R_drew)); exact HO_8.out)) (by decide) hg); have n1_ := Aside0.mk (hb); have n2_ := Aside0.mk (ho); clear HO_7; clear HB; clear HO_8; have HO_7 := n0_; have HB := n1_; have HO175 := n2_; clear n0_ n1_ n2_; clear ho hb hg hat)); try go_wp2_with (first | ((with_reducible refine gate_builtin (b := .append) (xs := #[.tmp 111, .tmp 118]) rfl ?_); (try (refine gate_guard (by rfl) ?_; dsimp only)); at_builtin; refine Kd.R_append k32 (w0 := w) w.heap.size rfl (.tmp 111) (.tmp 118) 22 32 (.agg #[(.int .i64 0), (.int .i64 0)]) 16 rfl Try.underlying22 info32 rfl (by decide) (by omega) (.slice (some ad164) x8_1.length co53) x8_1 (⟨rd t156 x9_1, wrap64 ((rd t156 (ji35)) - 1)⟩ : S32) [.int .i64 (rd t156 x9_1), .int .i64 (wrap64 ((rd t156 (ji35)) - 1))] (fun _ => True) (fun _ => False) rfl rfl ?aP (fun _ hk => hk.elim) ?aF ?aO ?aB ?aS ?aL ?_; (case aP => exact k32_mkM _ _ _ (⟨rd t156 x9_1, wrap64 ((rd t156 (ji35)) - 1)⟩ : S32)); (case aB => exact (by repeat (first | (with_reducible first | exact HB.out | apply below_alloc | apply pw_below_drewN | apply below_drew1) | exact HB.out))); (case aF => exact (fun _ _ => trivial)); (case aO => exact (by (with_reducible repeat (first | apply Kd.R_alloc | apply Kd.R_drewN | apply Kd.R_drew)); exact HO_8.out)); (case aS => exact (below_size (by repeat (first | (with_reducible first | exact HB.out | apply below_alloc | apply pw_below_drewN | apply below_drew1) | exact HB.out)))); (case aL => have := LMc52.out; omega); intro v174 w54 ho hb hg hat; rw [← Ny173.out] at ho; have n0_ := Aside0.mk (Kd.R_over' (by (with_reducible repeat (first | apply Kd.R_alloc | apply Kd.R_drewN | apply Kd.R_drew)); exact HO_7.out) (Kd.R_typed (by (with_reducible repeat (first | apply Kd.R_alloc | apply Kd.R_drewN | apply Kd.R_drew)); exact HO_8.out)) (by decide) hg); have n1_ := Aside0.mk (hb); have n2_ := Aside0.mk (ho); clear HO_7; clear HB; clear HO_8; have HO_7 := n0_; have HB := n1_; have HO175 := n2_; clear n0_ n1_ n2_; clear ho hb hg hat)))
                                  go_roundg kj15
                                  case measure => have := HK1.out; have := HJ15.out; omega
                                  case rel => exact ⟨(y173), (ji35), (by first | rfl | (simp; done) | (simp only [← hji35] <;> (first | rfl | simp)) | (simp [*]; done)), H', ⟨by have := HK1.out; have := HJ15.out; omega⟩, ⟨by (with_reducible repeat (first | apply Kd.R_alloc | apply Kd.R_drewN | apply Kd.R_drew)); exact HO_7.out⟩, ⟨by (with_reducible repeat (first | apply Kd.R_alloc | apply Kd.R_drewN | apply Kd.R_drew)); exact HO175.out⟩, ⟨by repeat (first | (with_reducible first | exact HB.out | apply below_alloc | apply pw_below_drewN | apply below_drew1) | exact HB.out)⟩⟩
                                · rw [if_neg c52] at H
                                  exact absurd H (by simp)
                            · rw [if_neg c42] at H
                              exact absurd H (by simp)
                          · rw [if_neg c41] at H
                            exact absurd H (by simp)
                        · rw [if_neg c40] at H
                          exact absurd H (by simp)
                      · rw [if_neg c39] at H
                        exact absurd H (by simp)
                    · rw [if_neg c37] at H
                      have c37b0 : decide (0 < (x8_1.length : Int)) = false := decide_eq_false c37
                      have c37b1 : decide (0 < x8_1.length) = false := decide_eq_false (by omega)
                      clear c37
                      by_cases c55 : 0 ≤ x9_1
                      · rw [if_pos c55] at H
                        have c55b0 : decide (0 ≤ x9_1) = true := decide_eq_true c55
                        clear c55
                        by_cases c56 : x9_1 < (t156.length : Int)
                        · rw [if_pos c56] at H
                          have c56b0 : decide (x9_1 < (t156.length : Int)) = true := decide_eq_true c56
                          clear c56
                          by_cases c57 : x8_1.length < 8796093022208
                          · rw [if_pos c57] at H
                            have LMc57 := Aside0.mk c57
                            clear c57
                            obtain ⟨y177, hy177⟩ : ∃ y_ : List (S32), y_ = (x8_1 ++ [(⟨rd t156 x9_1, wrap64 ((rd t156 (ji35)) - 1)⟩ : S32)]) := ⟨_, rfl⟩
                            replace H : (spandrelref11_of.l0 kj15 l0 l1 a2 t156 y177 ji35) = some r := by first | (rw [hy177]; with_reducible exact H) | (have H2_ := (Option.bind_some _ _).symm.trans H; rw [hy177]; with_reducible exact H2_) | (have H2_ := (Option.bind_some _ _).symm.trans H; with_reducible exact H2_) | with_reducible exact H | (rw [hy177]; exact H) | exact H
                            have Ny177 := Aside0.mk hy177
                            clear hy177
                            have H' := Aside0.mk H
                            clear H
                            have p163 : 0 ≤ ((ji35) : Int) := of_decide_eq_true (by first | (with_reducible assumption) | assumption)
                            have q163 : (ji35) < (t156.length : Int) := of_decide_eq_true (by first | (with_reducible assumption) | assumption)
                            obtain ⟨ad163, e163, hx163_0⟩ := Kd.at_int (Kd.R_reads' HO_7.out).2.2 (ji35) p163 q163
                            obtain rfl : ad159 = ad163 := (by injection e163)
                            replace p163 := eq_true p163
                            replace q163 := eq_true q163
                            obtain ⟨Ao58, co58, eo58⟩ := Kd.R_slice HO_8.out
                            subst eo58
                            have p176 : 0 ≤ (x9_1 : Int) := of_decide_eq_true (by first | (with_reducible assumption) | assumption)
                            have q176 : x9_1 < (t156.length : Int) := of_decide_eq_true (by first | (with_reducible assumption) | assumption)
                            obtain ⟨ad176, e176, hx176_0⟩ := Kd.at_int (Kd.R_reads' HO_7.out).2.2 x9_1 p176 q176
                            obtain rfl : ad159 = ad176 := (by injection e176)
                            replace p176 := eq_true p176
                            replace q176 := eq_true q176
                            go_wp2_with (first | ((with_reducible refine gate_builtin (b := .append) (xs := #[.tmp 111, .tmp 118]) rfl ?_); (try (refine gate_guard (by rfl) ?_; dsimp only)); at_builtin; refine Kd.R_append k32 (w0 := w) w.heap.size rfl (.tmp 111) (.tmp 118) 22 32 (.agg #[(.int .i64 0), (.int .i64 0)]) 16 rfl Try.underlying22 info32 rfl (by decide) (by omega) (.slice Ao58 x8_1.length co58) x8_1 (⟨rd t156 x9_1, wrap64 ((rd t156 (ji35)) - 1)⟩ : S32) [.int .i64 (rd t156 x9_1), .int .i64 (wrap64 ((rd t156 (ji35)) - 1))] (fun _ => True) (fun _ => False) rfl rfl ?aP (fun _ hk => hk.elim) ?aF ?aO ?aB ?aS ?aL ?_; (case aP => exact k32_mkM _ _ _ (⟨rd t156 x9_1, wrap64 ((rd t156 (ji35)) - 1)⟩ : S32)); (case aB => exact (by repeat (first | (with_reducible first | exact HB.out | apply below_alloc | apply pw_below_drewN | apply below_drew1) | exact HB.out))); (case aF => exact (fun _ _ => trivial)); (case aO => exact (by (with_reducible repeat (first | apply Kd.R_alloc | apply Kd.R_drewN | apply Kd.R_drew)); exact HO_8.out)); (case aS => exact (below_size (by repeat (first | (with_reducible first | exact HB.out | apply below_alloc | apply pw_below_drewN | apply below_drew1) | exact HB.out)))); (case aL => have := LMc57.out; omega); intro v178 w59 ho hb hg hat; rw [← Ny177.out] at ho; have n0_ := Aside0.mk (Kd.R_over' (by (with_reducible repeat (first | apply Kd.R_alloc | apply Kd.R_drewN | apply Kd.R_drew)); exact HO_7.out) (Kd.R_typed (by (with_reducible repeat (first | apply Kd.R_alloc | apply Kd.R_drewN | apply Kd.R_drew)); exact HO_8.out)) (by decide) hg); have n1_ := Aside0.mk (hb); have n2_ := Aside0.mk (ho); clear HO_7; clear HB; clear HO_8; have HO_7 := n0_; have HB := n1_; have HO179 := n2_; clear n0_ n1_ n2_; clear ho hb hg hat))
                            repeat (go_quiet (first | ((with_reducible refine gate_builtin (b := .append) (xs := #[.tmp 111, .tmp 118]) rfl ?_); (try (refine gate_guard (by rfl) ?_; dsimp only)); at_builtin; refine Kd.R_append k32 (w0 := w) w.heap.size rfl (.tmp 111) (.tmp 118) 22 32 (.agg #[(.int .i64 0), (.int .i64 0)]) 16 rfl Try.underlying22 info32 rfl (by decide) (by omega) (.slice Ao58 x8_1.length co58) x8_1 (⟨rd t156 x9_1, wrap64 ((rd t156 (ji35)) - 1)⟩ : S32) [.int .i64 (rd t156 x9_1), .int .i64 (wrap64 ((rd t156 (ji35)) - 1))] (fun _ => True) (fun _ => False) rfl rfl ?aP (fun _ hk => hk.elim) ?aF ?aO ?aB ?aS ?aL ?_; (case aP => exact k32_mkM _ _ _ (⟨rd t156 x9_1, wrap64 ((rd t156 (ji35)) - 1)⟩ : S32)); (case aB => exact (by repeat (first | (with_reducible first | exact HB.out | apply below_alloc | apply pw_below_drewN | apply below_drew1) | exact HB.out))); (case aF => exact (fun _ _ => trivial)); (case aO => exact (by (with_reducible repeat (first | apply Kd.R_alloc | apply Kd.R_drewN | apply Kd.R_drew)); exact HO_8.out)); (case aS => exact (below_size (by repeat (first | (with_reducible first | exact HB.out | apply below_alloc | apply pw_below_drewN | apply below_drew1) | exact HB.out)))); (case aL => have := LMc57.out; omega); intro v178 w59 ho hb hg hat; rw [← Ny177.out] at ho; have n0_ := Aside0.mk (Kd.R_over' (by (with_reducible repeat (first | apply Kd.R_alloc | apply Kd.R_drewN | apply Kd.R_drew)); exact HO_7.out) (Kd.R_typed (by (with_reducible repeat (first | apply Kd.R_alloc | apply Kd.R_drewN | apply Kd.R_drew)); exact HO_8.out)) (by decide) hg); have n1_ := Aside0.mk (hb); have n2_ := Aside0.mk (ho); clear HO_7; clear HB; clear HO_8; have HO_7 := n0_; have HB := n1_; have HO179 := n2_; clear n0_ n1_ n2_; clear ho hb hg hat)); try go_wp2_with (first | ((with_reducible refine gate_builtin (b := .append) (xs := #[.tmp 111, .tmp 118]) rfl ?_); (try (refine gate_guard (by rfl) ?_; dsimp only)); at_builtin; refine Kd.R_append k32 (w0 := w) w.heap.size rfl (.tmp 111) (.tmp 118) 22 32 (.agg #[(.int .i64 0), (.int .i64 0)]) 16 rfl Try.underlying22 info32 rfl (by decide) (by omega) (.slice Ao58 x8_1.length co58) x8_1 (⟨rd t156 x9_1, wrap64 ((rd t156 (ji35)) - 1)⟩ : S32) [.int .i64 (rd t156 x9_1), .int .i64 (wrap64 ((rd t156 (ji35)) - 1))] (fun _ => True) (fun _ => False) rfl rfl ?aP (fun _ hk => hk.elim) ?aF ?aO ?aB ?aS ?aL ?_; (case aP => exact k32_mkM _ _ _ (⟨rd t156 x9_1, wrap64 ((rd t156 (ji35)) - 1)⟩ : S32)); (case aB => exact (by repeat (first | (with_reducible first | exact HB.out | apply below_alloc | apply pw_below_drewN | apply below_drew1) | exact HB.out))); (case aF => exact (fun _ _ => trivial)); (case aO => exact (by (with_reducible repeat (first | apply Kd.R_alloc | apply Kd.R_drewN | apply Kd.R_drew)); exact HO_8.out)); (case aS => exact (below_size (by repeat (first | (with_reducible first | exact HB.out | apply below_alloc | apply pw_below_drewN | apply below_drew1) | exact HB.out)))); (case aL => have := LMc57.out; omega); intro v178 w59 ho hb hg hat; rw [← Ny177.out] at ho; have n0_ := Aside0.mk (Kd.R_over' (by (with_reducible repeat (first | apply Kd.R_alloc | apply Kd.R_drewN | apply Kd.R_drew)); exact HO_7.out) (Kd.R_typed (by (with_reducible repeat (first | apply Kd.R_alloc | apply Kd.R_drewN | apply Kd.R_drew)); exact HO_8.out)) (by decide) hg); have n1_ := Aside0.mk (hb); have n2_ := Aside0.mk (ho); clear HO_7; clear HB; clear HO_8; have HO_7 := n0_; have HB := n1_; have HO179 := n2_; clear n0_ n1_ n2_; clear ho hb hg hat)))
                            go_roundg kj15
                            case measure => have := HK1.out; have := HJ15.out; omega
                            case rel => exact ⟨(y177), (ji35), (by first | rfl | (simp; done) | (simp only [← hji35] <;> (first | rfl | simp)) | (simp [*]; done)), H', ⟨by have := HK1.out; have := HJ15.out; omega⟩, ⟨by (with_reducible repeat (first | apply Kd.R_alloc | apply Kd.R_drewN | apply Kd.R_drew)); exact HO_7.out⟩, ⟨by (with_reducible repeat (first | apply Kd.R_alloc | apply Kd.R_drewN | apply Kd.R_drew)); exact HO179.out⟩, ⟨by repeat (first | (with_reducible first | exact HB.out | apply below_alloc | apply pw_below_drewN | apply below_drew1) | exact HB.out)⟩⟩
                          · rw [if_neg c57] at H
                            exact absurd H (by simp)
                        · rw [if_neg c56] at H
                          exact absurd H (by simp)
                      · rw [if_neg c55] at H
                        exact absurd H (by simp)
                  · rw [if_neg c36] at H
                    exact absurd H (by simp)
                · rw [if_neg c34] at H
                  have c34b0 : decide ((wrap64 (x9_1 + 1)) < (t156.length : Int)) = false := decide_eq_false c34
                  clear c34
                  by_cases c60 : (x8_1.length : Int) > 0
                  · rw [if_pos c60] at H
                    have c60b0 : decide (0 < (x8_1.length : Int)) = true := decide_eq_true c60
                    have c60b1 : decide (0 < x8_1.length) = true := decide_eq_true (by omega)
                    clear c60
                    obtain ⟨ji61, hji61⟩ : ∃ j_ : Int, (wrap64 ((x8_1.length : Int) - 1)) = j_ := ⟨_, rfl⟩
                    replace H : (if 0 ≤ (ji61) then (if (ji61) < (x8_1.length : Int) then (if 0 ≤ x9_1 then (if x9_1 < (t156.length : Int) then (if ((rd_T32 x8_1 (ji61)).f1) = (wrap64 ((rd t156 x9_1) - 1)) then (if (rd t156 x9_1) > (-9223372036854775808) then (spandrelref11_of.l0 kj15 l0 l1 a2 t156 (x8_1.set ((ji61) : Int).toNat (⟨(rd_T32 x8_1 (ji61)).f0, 9223372036854775807⟩ : S32)) (wrap64 (x9_1 + 1))) else (if x8_1.length < 8796093022208 then (spandrelref11_of.l0 kj15 l0 l1 a2 t156 (x8_1 ++ [(⟨rd t156 x9_1, 9223372036854775807⟩ : S32)]) (wrap64 (x9_1 + 1))) else (none))) else (if x8_1.length < 8796093022208 then (spandrelref11_of.l0 kj15 l0 l1 a2 t156 (x8_1 ++ [(⟨rd t156 x9_1, 9223372036854775807⟩ : S32)]) (wrap64 (x9_1 + 1))) else (none))) else (none)) else (none)) else (none)) else (none)) = some r := by first | (rw [hji61] at H; exact H) | (simp only [hji61] at H ⊢; exact H)
                    have hji61w : (IntKind.i64.wrap ((x8_1.length : Int) - 1)) = ji61 := (i64_w _).trans hji61
                    by_cases c62 : 0 ≤ (ji61)
                    · rw [if_pos c62] at H
                      have c62b0 : decide (0 ≤ (ji61)) = true := decide_eq_true c62
                      clear c62
                      by_cases c63 : (ji61) < (x8_1.length : Int)
                      · rw [if_pos c63] at H
                        have c63b0 : decide ((ji61) < (x8_1.length : Int)) = true := decide_eq_true c63
                        clear c63
                        by_cases c64 : 0 ≤ x9_1
                        · rw [if_pos c64] at H
                          have c64b0 : decide (0 ≤ x9_1) = true := decide_eq_true c64
                          clear c64
                          by_cases c65 : x9_1 < (t156.length : Int)
                          · rw [if_pos c65] at H
                            have c65b0 : decide (x9_1 < (t156.length : Int)) = true := decide_eq_true c65
                            clear c65
                            by_cases c66 : ((rd_T32 x8_1 (ji61)).f1) = (wrap64 ((rd t156 x9_1) - 1))
                            · rw [if_pos c66] at H
                              have c66b0 : (((rd_T32 x8_1 (ji61)).f1) == (wrap64 ((rd t156 x9_1) - 1))) = true := beq_iff_eq.mpr c66
                              have c66b1 : (((rd_T32 x8_1 (ji61)).f1) != (wrap64 ((rd t156 x9_1) - 1))) = false := bne_eq_false_iff_eq.mpr c66
                              clear c66
                              by_cases c67 : (rd t156 x9_1) > (-9223372036854775808)
                              · rw [if_pos c67] at H
                                have c67b0 : decide ((-9223372036854775808) < (rd t156 x9_1)) = true := decide_eq_true c67
                                clear c67
                                obtain ⟨y183, hy183⟩ : ∃ y_ : List (S32), y_ = (x8_1.set ((ji61) : Int).toNat (⟨(rd_T32 x8_1 (ji61)).f0, 9223372036854775807⟩ : S32)) := ⟨_, rfl⟩
                                replace H : (spandrelref11_of.l0 kj15 l0 l1 a2 t156 y183 (wrap64 (x9_1 + 1))) = some r := by first | (rw [hy183]; with_reducible exact H) | (have H2_ := (Option.bind_some _ _).symm.trans H; rw [hy183]; with_reducible exact H2_) | (have H2_ := (Option.bind_some _ _).symm.trans H; with_reducible exact H2_) | with_reducible exact H | (rw [hy183]; exact H) | exact H
                                have Ny183 := Aside0.mk hy183
                                clear hy183
                                have H' := Aside0.mk H
                                clear H
                                obtain ⟨Ao69, co69, eo69⟩ := Kd.R_slice HO_8.out
                                subst eo69
                                have p180 : 0 ≤ ((ji61) : Int) := of_decide_eq_true (by first | (with_reducible assumption) | assumption)
                                have q180 : (ji61) < (x8_1.length : Int) := of_decide_eq_true (by first | (with_reducible assumption) | assumption)
                                obtain ⟨ad180, e180, hx180_0, hx180_1⟩ := at_T32 (Kd.R_reads' HO_8.out).2.2 (ji61) p180 q180
                                cases e180
                                replace p180 := eq_true p180
                                replace q180 := eq_true q180
                                have p181 : 0 ≤ (x9_1 : Int) := of_decide_eq_true (by first | (with_reducible assumption) | assumption)
                                have q181 : x9_1 < (t156.length : Int) := of_decide_eq_true (by first | (with_reducible assumption) | assumption)
                                obtain ⟨ad181, e181, hx181_0⟩ := Kd.at_int (Kd.R_reads' HO_7.out).2.2 x9_1 p181 q181
                                obtain rfl : ad159 = ad181 := (by injection e181)
                                replace p181 := eq_true p181
                                replace q181 := eq_true q181
                                have p182 : 0 ≤ (x9_1 : Int) := of_decide_eq_true (by first | (with_reducible assumption) | assumption)
                                have q182 : x9_1 < (t156.length : Int) := of_decide_eq_true (by first | (with_reducible assumption) | assumption)
                                obtain ⟨ad182, e182, hx182_0⟩ := Kd.at_int (Kd.R_reads' HO_7.out).2.2 x9_1 p182 q182
                                obtain rfl : ad159 = ad182 := (by injection e182)
                                replace p182 := eq_true p182
                                replace q182 := eq_true q182
                                have p68 : 0 ≤ ((ji61) : Int) := of_decide_eq_true (by first | (with_reducible assumption) | assumption)
                                have q68 : ((ji61) : Int) < ((x8_1.length : Int) : Int) := of_decide_eq_true (by first | (with_reducible assumption) | assumption)
                                obtain ⟨go68, co68, eo68, gb68, gl68, cl68, HG68⟩ := Kd.R_form HO_8.out (by omega)
                                (first | cases eo68 | (injection eo68 with ea_ en_ ec_; (first | subst ea_ | (injection ea_ with ea_; subst ea_)); subst ec_; clear en_))
                                have GB68 := Aside0.mk gb68
                                have GG68 := Aside0.mk HG68
                                clear gb68 gl68 HG68
                                (first | simp only [add_plain] at hx180_0 | skip)
                                (first | simp only [add_plain] at hx180_1 | skip)
                                obtain ⟨ce68, hcl68, hM68, hcc68, hfr68⟩ := Kd.R_elem HO_8.out z32 ((ji61) : Int) p68 q68
                                obtain rfl := k32_openM hM68
                                have hx68_0 : wc.cell? ⟨go68, ((ji61) : Int).toNat * 2, none⟩ = some (.int .i64 ((rd_T32 x8_1 (ji61)).f0)) := hcc68 0 _ rfl
                                have hx68_1 : wc.cell? ⟨go68, ((ji61) : Int).toNat * 2 + 1, none⟩ = some (.int .i64 ((rd_T32 x8_1 (ji61)).f1)) := hcc68 1 _ rfl
                                have hf68_0 : wc.frozen? ⟨go68, ((ji61) : Int).toNat * 2, none⟩ = false := hfr68 0
                                have hf68_1 : wc.frozen? ⟨go68, ((ji61) : Int).toNat * 2 + 1, none⟩ = false := hfr68 1
                                clear hcl68 hcc68 hfr68 hM68
                                replace p68 := eq_true p68
                                replace q68 := eq_true q68
                                have HX70 := Aside0.mk (show Kd.R k32 32 wc w.heap.size (fun _ => True) (.slice (some ⟨go68, 0, none⟩) x8_1.length co69) x8_1 from (by (with_reducible repeat (first | apply Kd.R_alloc | apply Kd.R_drewN | apply Kd.R_drew)); exact HO_8.out))
                                obtain ⟨ce70, hcl70, hM70, hcc70, hfr70⟩ := Kd.R_elem HX70.out z32 ((ji61) : Int) (of_decide_eq_true (by first | (with_reducible assumption) | assumption)) (by have h_ : ((ji61) : Int) < ((x8_1.length : Int) : Int) := of_decide_eq_true (by first | (with_reducible assumption) | assumption); first | exact h_ | (have e_ := (Kd.R_reads' HO_8.out).1; omega) | simpa using h_)
                                obtain rfl := k32_openM hM70
                                have HP70 := Kd.R_seg HX70.out ((ji61) : Int) (of_decide_eq_true (by first | (with_reducible assumption) | assumption)) (by have h_ : ((ji61) : Int) < ((x8_1.length : Int) : Int) := of_decide_eq_true (by first | (with_reducible assumption) | assumption); first | exact h_ | (have e_ := (Kd.R_reads' HO_8.out).1; omega) | simpa using h_) (seg := [.int .i64 9223372036854775807]) (j := 1) hcl70 hcc70 (show 2 ≤ 2 from by decide) (x' := (⟨(rd_T32 x8_1 (ji61)).f0, 9223372036854775807⟩ : S32)) (k32_mkM _ _ _ (⟨(rd_T32 x8_1 (ji61)).f0, 9223372036854775807⟩ : S32) ) (fun _ hk => hk)
                                have hx70_1 := hcc70 1 _ rfl
                                (try simp only [show (k32).sz = 2 from rfl, Nat.mul_one, Nat.add_zero] at hx70_1)
                                have hf70_1 := hfr70 1
                                (try simp only [show (k32).sz = 2 from rfl, Nat.mul_one, Nat.add_zero] at hf70_1)
                                clear hcl70 hcc70 hfr70 hM70
                                go_wp2_with (first | ((with_reducible refine gate_store (t := 3) (p := 110) rfl ?_); (try (rw [drewN_self wc]; generalize hq_ : World.drewN wc _ = wc; have n0_ := Aside0.mk (Kd.R_at hq_ HO_7.out); have n1_ := Aside0.mk (Kd.R_at hq_ HO_8.out); have n2_ := Aside0.mk (below_at hq_ HB.out); clear hq_ HO_7 HO_8 HB; have HO_7 := n0_; have HO_8 := n1_; have HB := n2_; clear n0_ n1_ n2_; (try (have HX70 := Aside0.mk (show Kd.R k32 32 wc w.heap.size (fun _ => True) (.slice (some ⟨go68, 0, none⟩) x8_1.length co69) x8_1 from (by (with_reducible repeat (first | apply Kd.R_alloc | apply Kd.R_drewN | apply Kd.R_drew)); exact HO_8.out)))); (try (obtain ⟨ce70, hcl70, hM70, hcc70, hfr70⟩ := Kd.R_elem HX70.out z32 ((ji61) : Int) (of_decide_eq_true (by first | (with_reducible assumption) | assumption)) (by have h_ : ((ji61) : Int) < ((x8_1.length : Int) : Int) := of_decide_eq_true (by first | (with_reducible assumption) | assumption); first | exact h_ | (have e_ := (Kd.R_reads' HO_8.out).1; omega) | simpa using h_))); (try (obtain rfl := k32_openM hM70)); (try (have HP70 := Kd.R_seg HX70.out ((ji61) : Int) (of_decide_eq_true (by first | (with_reducible assumption) | assumption)) (by have h_ : ((ji61) : Int) < ((x8_1.length : Int) : Int) := of_decide_eq_true (by first | (with_reducible assumption) | assumption); first | exact h_ | (have e_ := (Kd.R_reads' HO_8.out).1; omega) | simpa using h_) (seg := [.int .i64 9223372036854775807]) (j := 1) hcl70 hcc70 (show 2 ≤ 2 from by decide) (x' := (⟨(rd_T32 x8_1 (ji61)).f0, 9223372036854775807⟩ : S32)) (k32_mkM _ _ _ (⟨(rd_T32 x8_1 (ji61)).f0, 9223372036854775807⟩ : S32) ) (fun _ hk => hk))); (try (have hx70_1 := hcc70 1 _ rfl)); (try (try simp only [show (k32).sz = 2 from rfl, Nat.mul_one, Nat.add_zero] at hx70_1)); (try (have hf70_1 := hfr70 1)); (try (try simp only [show (k32).sz = 2 from rfl, Nat.mul_one, Nat.add_zero] at hf70_1)); (try (clear hcl70 hcc70 hfr70 hM70)))); refine store_event (t := 3) (p := 110) (v := ?vo_w71) (w1 := (wc.setCell ⟨go68, ((ji61) : Int).toNat * 2 + 1, none⟩ (.int .i64 9223372036854775807))) ?hg ?ho ?hn ?hr ?_; (case ho => rfl); (case hg => rfl); (case hn => rfl); (case hr => first | (go_simp; done) | (go_simp; rfl)); intro w71 hw; have hg : wc.grownBy w71 (some go68) := (by rw [hw]; exact HP70.2); have hp_ : Kd.R k32 32 w71 w.heap.size (fun _ => True) (.slice (some ⟨go68, 0, none⟩) x8_1.length co69) y183 := (by rw [hw, Ny183.out]; exact HP70.1); clear HP70; have n0_ := Aside0.mk (Kd.R_over' (v := (.slice (some ⟨go68, 0, none⟩) x8_1.length co69)) (by (with_reducible repeat (first | apply Kd.R_alloc | apply Kd.R_drewN | apply Kd.R_drew)); exact HO_7.out) (Kd.R_typed HO_8.out) (by decide) hg); have n1_ := Aside0.mk (hp_); have n2_ := Aside0.mk ((by rw [hw]; exact below_set (HB.out) GB68.out : Below w.heap.size w w71)); clear HO_7; clear HO_8; clear HB; have HO_7 := n0_; have HO_8 := n1_; have HB := n2_; clear n0_ n1_ n2_; clear hg hw hp_))
                                repeat (go_quiet (first | ((with_reducible refine gate_store (t := 3) (p := 110) rfl ?_); (try (rw [drewN_self wc]; generalize hq_ : World.drewN wc _ = wc; have n0_ := Aside0.mk (Kd.R_at hq_ HO_7.out); have n1_ := Aside0.mk (Kd.R_at hq_ HO_8.out); have n2_ := Aside0.mk (below_at hq_ HB.out); clear hq_ HO_7 HO_8 HB; have HO_7 := n0_; have HO_8 := n1_; have HB := n2_; clear n0_ n1_ n2_; (try (have HX70 := Aside0.mk (show Kd.R k32 32 wc w.heap.size (fun _ => True) (.slice (some ⟨go68, 0, none⟩) x8_1.length co69) x8_1 from (by (with_reducible repeat (first | apply Kd.R_alloc | apply Kd.R_drewN | apply Kd.R_drew)); exact HO_8.out)))); (try (obtain ⟨ce70, hcl70, hM70, hcc70, hfr70⟩ := Kd.R_elem HX70.out z32 ((ji61) : Int) (of_decide_eq_true (by first | (with_reducible assumption) | assumption)) (by have h_ : ((ji61) : Int) < ((x8_1.length : Int) : Int) := of_decide_eq_true (by first | (with_reducible assumption) | assumption); first | exact h_ | (have e_ := (Kd.R_reads' HO_8.out).1; omega) | simpa using h_))); (try (obtain rfl := k32_openM hM70)); (try (have HP70 := Kd.R_seg HX70.out ((ji61) : Int) (of_decide_eq_true (by first | (with_reducible assumption) | assumption)) (by have h_ : ((ji61) : Int) < ((x8_1.length : Int) : Int) := of_decide_eq_true (by first | (with_reducible assumption) | assumption); first | exact h_ | (have e_ := (Kd.R_reads' HO_8.out).1; omega) | simpa using h_) (seg := [.int .i64 9223372036854775807]) (j := 1) hcl70 hcc70 (show 2 ≤ 2 from by decide) (x' := (⟨(rd_T32 x8_1 (ji61)).f0, 9223372036854775807⟩ : S32)) (k32_mkM _ _ _ (⟨(rd_T32 x8_1 (ji61)).f0, 9223372036854775807⟩ : S32) ) (fun _ hk => hk))); (try (have hx70_1 := hcc70 1 _ rfl)); (try (try simp only [show (k32).sz = 2 from rfl, Nat.mul_one, Nat.add_zero] at hx70_1)); (try (have hf70_1 := hfr70 1)); (try (try simp only [show (k32).sz = 2 from rfl, Nat.mul_one, Nat.add_zero] at hf70_1)); (try (clear hcl70 hcc70 hfr70 hM70)))); refine store_event (t := 3) (p := 110) (v := ?vo_w71) (w1 := (wc.setCell ⟨go68, ((ji61) : Int).toNat * 2 + 1, none⟩ (.int .i64 9223372036854775807))) ?hg ?ho ?hn ?hr ?_; (case ho => rfl); (case hg => rfl); (case hn => rfl); (case hr => first | (go_simp; done) | (go_simp; rfl)); intro w71 hw; have hg : wc.grownBy w71 (some go68) := (by rw [hw]; exact HP70.2); have hp_ : Kd.R k32 32 w71 w.heap.size (fun _ => True) (.slice (some ⟨go68, 0, none⟩) x8_1.length co69) y183 := (by rw [hw, Ny183.out]; exact HP70.1); clear HP70; have n0_ := Aside0.mk (Kd.R_over' (v := (.slice (some ⟨go68, 0, none⟩) x8_1.length co69)) (by (with_reducible repeat (first | apply Kd.R_alloc | apply Kd.R_drewN | apply Kd.R_drew)); exact HO_7.out) (Kd.R_typed HO_8.out) (by decide) hg); have n1_ := Aside0.mk (hp_); have n2_ := Aside0.mk ((by rw [hw]; exact below_set (HB.out) GB68.out : Below w.heap.size w w71)); clear HO_7; clear HO_8; clear HB; have HO_7 := n0_; have HO_8 := n1_; have HB := n2_; clear n0_ n1_ n2_; clear hg hw hp_)); try go_wp2_with (first | ((with_reducible refine gate_store (t := 3) (p := 110) rfl ?_); (try (rw [drewN_self wc]; generalize hq_ : World.drewN wc _ = wc; have n0_ := Aside0.mk (Kd.R_at hq_ HO_7.out); have n1_ := Aside0.mk (Kd.R_at hq_ HO_8.out); have n2_ := Aside0.mk (below_at hq_ HB.out); clear hq_ HO_7 HO_8 HB; have HO_7 := n0_; have HO_8 := n1_; have HB := n2_; clear n0_ n1_ n2_; (try (have HX70 := Aside0.mk (show Kd.R k32 32 wc w.heap.size (fun _ => True) (.slice (some ⟨go68, 0, none⟩) x8_1.length co69) x8_1 from (by (with_reducible repeat (first | apply Kd.R_alloc | apply Kd.R_drewN | apply Kd.R_drew)); exact HO_8.out)))); (try (obtain ⟨ce70, hcl70, hM70, hcc70, hfr70⟩ := Kd.R_elem HX70.out z32 ((ji61) : Int) (of_decide_eq_true (by first | (with_reducible assumption) | assumption)) (by have h_ : ((ji61) : Int) < ((x8_1.length : Int) : Int) := of_decide_eq_true (by first | (with_reducible assumption) | assumption); first | exact h_ | (have e_ := (Kd.R_reads' HO_8.out).1; omega) | simpa using h_))); (try (obtain rfl := k32_openM hM70)); (try (have HP70 := Kd.R_seg HX70.out ((ji61) : Int) (of_decide_eq_true (by first | (with_reducible assumption) | assumption)) (by have h_ : ((ji61) : Int) < ((x8_1.length : Int) : Int) := of_decide_eq_true (by first | (with_reducible assumption) | assumption); first | exact h_ | (have e_ := (Kd.R_reads' HO_8.out).1; omega) | simpa using h_) (seg := [.int .i64 9223372036854775807]) (j := 1) hcl70 hcc70 (show 2 ≤ 2 from by decide) (x' := (⟨(rd_T32 x8_1 (ji61)).f0, 9223372036854775807⟩ : S32)) (k32_mkM _ _ _ (⟨(rd_T32 x8_1 (ji61)).f0, 9223372036854775807⟩ : S32) ) (fun _ hk => hk))); (try (have hx70_1 := hcc70 1 _ rfl)); (try (try simp only [show (k32).sz = 2 from rfl, Nat.mul_one, Nat.add_zero] at hx70_1)); (try (have hf70_1 := hfr70 1)); (try (try simp only [show (k32).sz = 2 from rfl, Nat.mul_one, Nat.add_zero] at hf70_1)); (try (clear hcl70 hcc70 hfr70 hM70)))); refine store_event (t := 3) (p := 110) (v := ?vo_w71) (w1 := (wc.setCell ⟨go68, ((ji61) : Int).toNat * 2 + 1, none⟩ (.int .i64 9223372036854775807))) ?hg ?ho ?hn ?hr ?_; (case ho => rfl); (case hg => rfl); (case hn => rfl); (case hr => first | (go_simp; done) | (go_simp; rfl)); intro w71 hw; have hg : wc.grownBy w71 (some go68) := (by rw [hw]; exact HP70.2); have hp_ : Kd.R k32 32 w71 w.heap.size (fun _ => True) (.slice (some ⟨go68, 0, none⟩) x8_1.length co69) y183 := (by rw [hw, Ny183.out]; exact HP70.1); clear HP70; have n0_ := Aside0.mk (Kd.R_over' (v := (.slice (some ⟨go68, 0, none⟩) x8_1.length co69)) (by (with_reducible repeat (first | apply Kd.R_alloc | apply Kd.R_drewN | apply Kd.R_drew)); exact HO_7.out) (Kd.R_typed HO_8.out) (by decide) hg); have n1_ := Aside0.mk (hp_); have n2_ := Aside0.mk ((by rw [hw]; exact below_set (HB.out) GB68.out : Below w.heap.size w w71)); clear HO_7; clear HO_8; clear HB; have HO_7 := n0_; have HO_8 := n1_; have HB := n2_; clear n0_ n1_ n2_; clear hg hw hp_)))
                                go_roundg kj15
                                case measure => have := HK1.out; have := HJ15.out; omega
                                case rel => exact ⟨(y183), (wrap64 (x9_1 + 1)), (by first | rfl | (simp; done) | (simp [*]; done)), H', ⟨by have := HK1.out; have := HJ15.out; omega⟩, ⟨by (with_reducible repeat (first | apply Kd.R_alloc | apply Kd.R_drewN | apply Kd.R_drew)); exact HO_7.out⟩, ⟨by (with_reducible repeat (first | apply Kd.R_alloc | apply Kd.R_drewN | apply Kd.R_drew)); exact HO_8.out⟩, ⟨by repeat (first | (with_reducible first | exact HB.out | apply below_alloc | apply pw_below_drewN | apply below_drew1) | exact HB.out)⟩⟩
                              · rw [if_neg c67] at H
                                have c67b0 : decide ((-9223372036854775808) < (rd t156 x9_1)) = false := decide_eq_false c67
                                clear c67
                                by_cases c72 : x8_1.length < 8796093022208
                                · rw [if_pos c72] at H
                                  have LMc72 := Aside0.mk c72
                                  clear c72
                                  obtain ⟨y185, hy185⟩ : ∃ y_ : List (S32), y_ = (x8_1 ++ [(⟨rd t156 x9_1, 9223372036854775807⟩ : S32)]) := ⟨_, rfl⟩
                                  replace H : (spandrelref11_of.l0 kj15 l0 l1 a2 t156 y185 (wrap64 (x9_1 + 1))) = some r := by first | (rw [hy185]; with_reducible exact H) | (have H2_ := (Option.bind_some _ _).symm.trans H; rw [hy185]; with_reducible exact H2_) | (have H2_ := (Option.bind_some _ _).symm.trans H; with_reducible exact H2_) | with_reducible exact H | (rw [hy185]; exact H) | exact H
                                  have Ny185 := Aside0.mk hy185
                                  clear hy185
                                  have H' := Aside0.mk H
                                  clear H
                                  obtain ⟨Ao73, co73, eo73⟩ := Kd.R_slice HO_8.out
                                  subst eo73
                                  have p180 : 0 ≤ ((ji61) : Int) := of_decide_eq_true (by first | (with_reducible assumption) | assumption)
                                  have q180 : (ji61) < (x8_1.length : Int) := of_decide_eq_true (by first | (with_reducible assumption) | assumption)
                                  obtain ⟨ad180, e180, hx180_0, hx180_1⟩ := at_T32 (Kd.R_reads' HO_8.out).2.2 (ji61) p180 q180
                                  cases e180
                                  replace p180 := eq_true p180
                                  replace q180 := eq_true q180
                                  have p181 : 0 ≤ (x9_1 : Int) := of_decide_eq_true (by first | (with_reducible assumption) | assumption)
                                  have q181 : x9_1 < (t156.length : Int) := of_decide_eq_true (by first | (with_reducible assumption) | assumption)
                                  obtain ⟨ad181, e181, hx181_0⟩ := Kd.at_int (Kd.R_reads' HO_7.out).2.2 x9_1 p181 q181
                                  obtain rfl : ad159 = ad181 := (by injection e181)
                                  replace p181 := eq_true p181
                                  replace q181 := eq_true q181
                                  have p182 : 0 ≤ (x9_1 : Int) := of_decide_eq_true (by first | (with_reducible assumption) | assumption)
                                  have q182 : x9_1 < (t156.length : Int) := of_decide_eq_true (by first | (with_reducible assumption) | assumption)
                                  obtain ⟨ad182, e182, hx182_0⟩ := Kd.at_int (Kd.R_reads' HO_7.out).2.2 x9_1 p182 q182
                                  obtain rfl : ad159 = ad182 := (by injection e182)
                                  replace p182 := eq_true p182
                                  replace q182 := eq_true q182
                                  have p184 : 0 ≤ (x9_1 : Int) := of_decide_eq_true (by first | (with_reducible assumption) | assumption)
                                  have q184 : x9_1 < (t156.length : Int) := of_decide_eq_true (by first | (with_reducible assumption) | assumption)
                                  obtain ⟨ad184, e184, hx184_0⟩ := Kd.at_int (Kd.R_reads' HO_7.out).2.2 x9_1 p184 q184
                                  obtain rfl : ad159 = ad184 := (by injection e184)
                                  replace p184 := eq_true p184
                                  replace q184 := eq_true q184
                                  go_wp2_with (first | ((with_reducible refine gate_builtin (b := .append) (xs := #[.tmp 111, .tmp 118]) rfl ?_); (try (refine gate_guard (by rfl) ?_; dsimp only)); at_builtin; refine Kd.R_append k32 (w0 := w) w.heap.size rfl (.tmp 111) (.tmp 118) 22 32 (.agg #[(.int .i64 0), (.int .i64 0)]) 16 rfl Try.underlying22 info32 rfl (by decide) (by omega) (.slice (some ad180) x8_1.length co73) x8_1 (⟨rd t156 x9_1, 9223372036854775807⟩ : S32) [.int .i64 (rd t156 x9_1), .int .i64 9223372036854775807] (fun _ => True) (fun _ => False) rfl rfl ?aP (fun _ hk => hk.elim) ?aF ?aO ?aB ?aS ?aL ?_; (case aP => exact k32_mkM _ _ _ (⟨rd t156 x9_1, 9223372036854775807⟩ : S32)); (case aB => exact (by repeat (first | (with_reducible first | exact HB.out | apply below_alloc | apply pw_below_drewN | apply below_drew1) | exact HB.out))); (case aF => exact (fun _ _ => trivial)); (case aO => exact (by (with_reducible repeat (first | apply Kd.R_alloc | apply Kd.R_drewN | apply Kd.R_drew)); exact HO_8.out)); (case aS => exact (below_size (by repeat (first | (with_reducible first | exact HB.out | apply below_alloc | apply pw_below_drewN | apply below_drew1) | exact HB.out)))); (case aL => have := LMc72.out; omega); intro v186 w74 ho hb hg hat; rw [← Ny185.out] at ho; have n0_ := Aside0.mk (Kd.R_over' (by (with_reducible repeat (first | apply Kd.R_alloc | apply Kd.R_drewN | apply Kd.R_drew)); exact HO_7.out) (Kd.R_typed (by (with_reducible repeat (first | apply Kd.R_alloc | apply Kd.R_drewN | apply Kd.R_drew)); exact HO_8.out)) (by decide) hg); have n1_ := Aside0.mk (hb); have n2_ := Aside0.mk (ho); clear HO_7; clear HB; clear HO_8; have HO_7 := n0_; have HB := n1_; have HO187 := n2_; clear n0_ n1_ n2_; clear ho hb hg hat))
                                  repeat (go_quiet (first | ((with_reducible refine gate_builtin (b := .append) (xs := #[.tmp 111, .tmp 118]) rfl ?_); (try (refine gate_guard (by rfl) ?_; dsimp only)); at_builtin; refine Kd.R_append k32 (w0 := w) w.heap.size rfl (.tmp 111) (.tmp 118) 22 32 (.agg #[(.int .i64 0), (.int .i64 0)]) 16 rfl Try.underlying22 info32 rfl (by decide) (by omega) (.slice (some ad180) x8_1.length co73) x8_1 (⟨rd t156 x9_1, 9223372036854775807⟩ : S32) [.int .i64 (rd t156 x9_1), .int .i64 9223372036854775807] (fun _ => True) (fun _ => False) rfl rfl ?aP (fun _ hk => hk.elim) ?aF ?aO ?aB ?aS ?aL ?_; (case aP => exact k32_mkM _ _ _ (⟨rd t156 x9_1, 9223372036854775807⟩ : S32)); (case aB => exact (by repeat (first | (with_reducible first | exact HB.out | apply below_alloc | apply pw_below_drewN | apply below_drew1) | exact HB.out))); (case aF => exact (fun _ _ => trivial)); (case aO => exact (by (with_reducible repeat (first | apply Kd.R_alloc | apply Kd.R_drewN | apply Kd.R_drew)); exact HO_8.out)); (case aS => exact (below_size (by repeat (first | (with_reducible first | exact HB.out | apply below_alloc | apply pw_below_drewN | apply below_drew1) | exact HB.out)))); (case aL => have := LMc72.out; omega); intro v186 w74 ho hb hg hat; rw [← Ny185.out] at ho; have n0_ := Aside0.mk (Kd.R_over' (by (with_reducible repeat (first | apply Kd.R_alloc | apply Kd.R_drewN | apply Kd.R_drew)); exact HO_7.out) (Kd.R_typed (by (with_reducible repeat (first | apply Kd.R_alloc | apply Kd.R_drewN | apply Kd.R_drew)); exact HO_8.out)) (by decide) hg); have n1_ := Aside0.mk (hb); have n2_ := Aside0.mk (ho); clear HO_7; clear HB; clear HO_8; have HO_7 := n0_; have HB := n1_; have HO187 := n2_; clear n0_ n1_ n2_; clear ho hb hg hat)); try go_wp2_with (first | ((with_reducible refine gate_builtin (b := .append) (xs := #[.tmp 111, .tmp 118]) rfl ?_); (try (refine gate_guard (by rfl) ?_; dsimp only)); at_builtin; refine Kd.R_append k32 (w0 := w) w.heap.size rfl (.tmp 111) (.tmp 118) 22 32 (.agg #[(.int .i64 0), (.int .i64 0)]) 16 rfl Try.underlying22 info32 rfl (by decide) (by omega) (.slice (some ad180) x8_1.length co73) x8_1 (⟨rd t156 x9_1, 9223372036854775807⟩ : S32) [.int .i64 (rd t156 x9_1), .int .i64 9223372036854775807] (fun _ => True) (fun _ => False) rfl rfl ?aP (fun _ hk => hk.elim) ?aF ?aO ?aB ?aS ?aL ?_; (case aP => exact k32_mkM _ _ _ (⟨rd t156 x9_1, 9223372036854775807⟩ : S32)); (case aB => exact (by repeat (first | (with_reducible first | exact HB.out | apply below_alloc | apply pw_below_drewN | apply below_drew1) | exact HB.out))); (case aF => exact (fun _ _ => trivial)); (case aO => exact (by (with_reducible repeat (first | apply Kd.R_alloc | apply Kd.R_drewN | apply Kd.R_drew)); exact HO_8.out)); (case aS => exact (below_size (by repeat (first | (with_reducible first | exact HB.out | apply below_alloc | apply pw_below_drewN | apply below_drew1) | exact HB.out)))); (case aL => have := LMc72.out; omega); intro v186 w74 ho hb hg hat; rw [← Ny185.out] at ho; have n0_ := Aside0.mk (Kd.R_over' (by (with_reducible repeat (first | apply Kd.R_alloc | apply Kd.R_drewN | apply Kd.R_drew)); exact HO_7.out) (Kd.R_typed (by (with_reducible repeat (first | apply Kd.R_alloc | apply Kd.R_drewN | apply Kd.R_drew)); exact HO_8.out)) (by decide) hg); have n1_ := Aside0.mk (hb); have n2_ := Aside0.mk (ho); clear HO_7; clear HB; clear HO_8; have HO_7 := n0_; have HB := n1_; have HO187 := n2_; clear n0_ n1_ n2_; clear ho hb hg hat)))
                                  go_roundg kj15
                                  case measure => have := HK1.out; have := HJ15.out; omega
                                  case rel => exact ⟨(y185), (wrap64 (x9_1 + 1)), (by first | rfl | (simp; done) | (simp [*]; done)), H', ⟨by have := HK1.out; have := HJ15.out; omega⟩, ⟨by (with_reducible repeat (first | apply Kd.R_alloc | apply Kd.R_drewN | apply Kd.R_drew)); exact HO_7.out⟩, ⟨by (with_reducible repeat (first | apply Kd.R_alloc | apply Kd.R_drewN | apply Kd.R_drew)); exact HO187.out⟩, ⟨by repeat (first | (with_reducible first | exact HB.out | apply below_alloc | apply pw_below_drewN | apply below_drew1) | exact HB.out)⟩⟩
                                · rw [if_neg c72] at H
                                  exact absurd H (by simp)
                            · rw [if_neg c66] at H
                              have c66b0 : (((rd_T32 x8_1 (ji61)).f1) == (wrap64 ((rd t156 x9_1) - 1))) = false := beq_eq_false_iff_ne.mpr c66
                              have c66b1 : (((rd_T32 x8_1 (ji61)).f1) != (wrap64 ((rd t156 x9_1) - 1))) = true := bne_iff_ne.mpr c66
                              by_cases c75 : x8_1.length < 8796093022208
                              · rw [if_pos c75] at H
                                have LMc75 := Aside0.mk c75
                                clear c75
                                obtain ⟨y189, hy189⟩ : ∃ y_ : List (S32), y_ = (x8_1 ++ [(⟨rd t156 x9_1, 9223372036854775807⟩ : S32)]) := ⟨_, rfl⟩
                                replace H : (spandrelref11_of.l0 kj15 l0 l1 a2 t156 y189 (wrap64 (x9_1 + 1))) = some r := by first | (rw [hy189]; with_reducible exact H) | (have H2_ := (Option.bind_some _ _).symm.trans H; rw [hy189]; with_reducible exact H2_) | (have H2_ := (Option.bind_some _ _).symm.trans H; with_reducible exact H2_) | with_reducible exact H | (rw [hy189]; exact H) | exact H
                                have Ny189 := Aside0.mk hy189
                                clear hy189
                                have H' := Aside0.mk H
                                clear H
                                obtain ⟨Ao76, co76, eo76⟩ := Kd.R_slice HO_8.out
                                subst eo76
                                have p180 : 0 ≤ ((ji61) : Int) := of_decide_eq_true (by first | (with_reducible assumption) | assumption)
                                have q180 : (ji61) < (x8_1.length : Int) := of_decide_eq_true (by first | (with_reducible assumption) | assumption)
                                obtain ⟨ad180, e180, hx180_0, hx180_1⟩ := at_T32 (Kd.R_reads' HO_8.out).2.2 (ji61) p180 q180
                                cases e180
                                replace p180 := eq_true p180
                                replace q180 := eq_true q180
                                have p181 : 0 ≤ (x9_1 : Int) := of_decide_eq_true (by first | (with_reducible assumption) | assumption)
                                have q181 : x9_1 < (t156.length : Int) := of_decide_eq_true (by first | (with_reducible assumption) | assumption)
                                obtain ⟨ad181, e181, hx181_0⟩ := Kd.at_int (Kd.R_reads' HO_7.out).2.2 x9_1 p181 q181
                                obtain rfl : ad159 = ad181 := (by injection e181)
                                replace p181 := eq_true p181
                                replace q181 := eq_true q181
                                have p188 : 0 ≤ (x9_1 : Int) := of_decide_eq_true (by first | (with_reducible assumption) | assumption)
                                have q188 : x9_1 < (t156.length : Int) := of_decide_eq_true (by first | (with_reducible assumption) | assumption)
                                obtain ⟨ad188, e188, hx188_0⟩ := Kd.at_int (Kd.R_reads' HO_7.out).2.2 x9_1 p188 q188
                                obtain rfl : ad159 = ad188 := (by injection e188)
                                replace p188 := eq_true p188
                                replace q188 := eq_true q188
                                go_wp2_with (first | ((with_reducible refine gate_builtin (b := .append) (xs := #[.tmp 111, .tmp 118]) rfl ?_); (try (refine gate_guard (by rfl) ?_; dsimp only)); at_builtin; refine Kd.R_append k32 (w0 := w) w.heap.size rfl (.tmp 111) (.tmp 118) 22 32 (.agg #[(.int .i64 0), (.int .i64 0)]) 16 rfl Try.underlying22 info32 rfl (by decide) (by omega) (.slice (some ad180) x8_1.length co76) x8_1 (⟨rd t156 x9_1, 9223372036854775807⟩ : S32) [.int .i64 (rd t156 x9_1), .int .i64 9223372036854775807] (fun _ => True) (fun _ => False) rfl rfl ?aP (fun _ hk => hk.elim) ?aF ?aO ?aB ?aS ?aL ?_; (case aP => exact k32_mkM _ _ _ (⟨rd t156 x9_1, 9223372036854775807⟩ : S32)); (case aB => exact (by repeat (first | (with_reducible first | exact HB.out | apply below_alloc | apply pw_below_drewN | apply below_drew1) | exact HB.out))); (case aF => exact (fun _ _ => trivial)); (case aO => exact (by (with_reducible repeat (first | apply Kd.R_alloc | apply Kd.R_drewN | apply Kd.R_drew)); exact HO_8.out)); (case aS => exact (below_size (by repeat (first | (with_reducible first | exact HB.out | apply below_alloc | apply pw_below_drewN | apply below_drew1) | exact HB.out)))); (case aL => have := LMc75.out; omega); intro v190 w77 ho hb hg hat; rw [← Ny189.out] at ho; have n0_ := Aside0.mk (Kd.R_over' (by (with_reducible repeat (first | apply Kd.R_alloc | apply Kd.R_drewN | apply Kd.R_drew)); exact HO_7.out) (Kd.R_typed (by (with_reducible repeat (first | apply Kd.R_alloc | apply Kd.R_drewN | apply Kd.R_drew)); exact HO_8.out)) (by decide) hg); have n1_ := Aside0.mk (hb); have n2_ := Aside0.mk (ho); clear HO_7; clear HB; clear HO_8; have HO_7 := n0_; have HB := n1_; have HO191 := n2_; clear n0_ n1_ n2_; clear ho hb hg hat))
                                repeat (go_quiet (first | ((with_reducible refine gate_builtin (b := .append) (xs := #[.tmp 111, .tmp 118]) rfl ?_); (try (refine gate_guard (by rfl) ?_; dsimp only)); at_builtin; refine Kd.R_append k32 (w0 := w) w.heap.size rfl (.tmp 111) (.tmp 118) 22 32 (.agg #[(.int .i64 0), (.int .i64 0)]) 16 rfl Try.underlying22 info32 rfl (by decide) (by omega) (.slice (some ad180) x8_1.length co76) x8_1 (⟨rd t156 x9_1, 9223372036854775807⟩ : S32) [.int .i64 (rd t156 x9_1), .int .i64 9223372036854775807] (fun _ => True) (fun _ => False) rfl rfl ?aP (fun _ hk => hk.elim) ?aF ?aO ?aB ?aS ?aL ?_; (case aP => exact k32_mkM _ _ _ (⟨rd t156 x9_1, 9223372036854775807⟩ : S32)); (case aB => exact (by repeat (first | (with_reducible first | exact HB.out | apply below_alloc | apply pw_below_drewN | apply below_drew1) | exact HB.out))); (case aF => exact (fun _ _ => trivial)); (case aO => exact (by (with_reducible repeat (first | apply Kd.R_alloc | apply Kd.R_drewN | apply Kd.R_drew)); exact HO_8.out)); (case aS => exact (below_size (by repeat (first | (with_reducible first | exact HB.out | apply below_alloc | apply pw_below_drewN | apply below_drew1) | exact HB.out)))); (case aL => have := LMc75.out; omega); intro v190 w77 ho hb hg hat; rw [← Ny189.out] at ho; have n0_ := Aside0.mk (Kd.R_over' (by (with_reducible repeat (first | apply Kd.R_alloc | apply Kd.R_drewN | apply Kd.R_drew)); exact HO_7.out) (Kd.R_typed (by (with_reducible repeat (first | apply Kd.R_alloc | apply Kd.R_drewN | apply Kd.R_drew)); exact HO_8.out)) (by decide) hg); have n1_ := Aside0.mk (hb); have n2_ := Aside0.mk (ho); clear HO_7; clear HB; clear HO_8; have HO_7 := n0_; have HB := n1_; have HO191 := n2_; clear n0_ n1_ n2_; clear ho hb hg hat)); try go_wp2_with (first | ((with_reducible refine gate_builtin (b := .append) (xs := #[.tmp 111, .tmp 118]) rfl ?_); (try (refine gate_guard (by rfl) ?_; dsimp only)); at_builtin; refine Kd.R_append k32 (w0 := w) w.heap.size rfl (.tmp 111) (.tmp 118) 22 32 (.agg #[(.int .i64 0), (.int .i64 0)]) 16 rfl Try.underlying22 info32 rfl (by decide) (by omega) (.slice (some ad180) x8_1.length co76) x8_1 (⟨rd t156 x9_1, 9223372036854775807⟩ : S32) [.int .i64 (rd t156 x9_1), .int .i64 9223372036854775807] (fun _ => True) (fun _ => False) rfl rfl ?aP (fun _ hk => hk.elim) ?aF ?aO ?aB ?aS ?aL ?_; (case aP => exact k32_mkM _ _ _ (⟨rd t156 x9_1, 9223372036854775807⟩ : S32)); (case aB => exact (by repeat (first | (with_reducible first | exact HB.out | apply below_alloc | apply pw_below_drewN | apply below_drew1) | exact HB.out))); (case aF => exact (fun _ _ => trivial)); (case aO => exact (by (with_reducible repeat (first | apply Kd.R_alloc | apply Kd.R_drewN | apply Kd.R_drew)); exact HO_8.out)); (case aS => exact (below_size (by repeat (first | (with_reducible first | exact HB.out | apply below_alloc | apply pw_below_drewN | apply below_drew1) | exact HB.out)))); (case aL => have := LMc75.out; omega); intro v190 w77 ho hb hg hat; rw [← Ny189.out] at ho; have n0_ := Aside0.mk (Kd.R_over' (by (with_reducible repeat (first | apply Kd.R_alloc | apply Kd.R_drewN | apply Kd.R_drew)); exact HO_7.out) (Kd.R_typed (by (with_reducible repeat (first | apply Kd.R_alloc | apply Kd.R_drewN | apply Kd.R_drew)); exact HO_8.out)) (by decide) hg); have n1_ := Aside0.mk (hb); have n2_ := Aside0.mk (ho); clear HO_7; clear HB; clear HO_8; have HO_7 := n0_; have HB := n1_; have HO191 := n2_; clear n0_ n1_ n2_; clear ho hb hg hat)))
                                go_roundg kj15
                                case measure => have := HK1.out; have := HJ15.out; omega
                                case rel => exact ⟨(y189), (wrap64 (x9_1 + 1)), (by first | rfl | (simp; done) | (simp [*]; done)), H', ⟨by have := HK1.out; have := HJ15.out; omega⟩, ⟨by (with_reducible repeat (first | apply Kd.R_alloc | apply Kd.R_drewN | apply Kd.R_drew)); exact HO_7.out⟩, ⟨by (with_reducible repeat (first | apply Kd.R_alloc | apply Kd.R_drewN | apply Kd.R_drew)); exact HO191.out⟩, ⟨by repeat (first | (with_reducible first | exact HB.out | apply below_alloc | apply pw_below_drewN | apply below_drew1) | exact HB.out)⟩⟩
                              · rw [if_neg c75] at H
                                exact absurd H (by simp)
                          · rw [if_neg c65] at H
                            exact absurd H (by simp)
                        · rw [if_neg c64] at H
                          exact absurd H (by simp)
                      · rw [if_neg c63] at H
                        exact absurd H (by simp)
                    · rw [if_neg c62] at H
                      exact absurd H (by simp)
                  · rw [if_neg c60] at H
                    have c60b0 : decide (0 < (x8_1.length : Int)) = false := decide_eq_false c60
                    have c60b1 : decide (0 < x8_1.length) = false := decide_eq_false (by omega)
                    clear c60
                    by_cases c78 : 0 ≤ x9_1
                    · rw [if_pos c78] at H
                      have c78b0 : decide (0 ≤ x9_1) = true := decide_eq_true c78
                      clear c78
                      by_cases c79 : x9_1 < (t156.length : Int)
                      · rw [if_pos c79] at H
                        have c79b0 : decide (x9_1 < (t156.length : Int)) = true := decide_eq_true c79
                        clear c79
                        by_cases c80 : x8_1.length < 8796093022208
                        · rw [if_pos c80] at H
                          have LMc80 := Aside0.mk c80
                          clear c80
                          obtain ⟨y193, hy193⟩ : ∃ y_ : List (S32), y_ = (x8_1 ++ [(⟨rd t156 x9_1, 9223372036854775807⟩ : S32)]) := ⟨_, rfl⟩
                          replace H : (spandrelref11_of.l0 kj15 l0 l1 a2 t156 y193 (wrap64 (x9_1 + 1))) = some r := by first | (rw [hy193]; with_reducible exact H) | (have H2_ := (Option.bind_some _ _).symm.trans H; rw [hy193]; with_reducible exact H2_) | (have H2_ := (Option.bind_some _ _).symm.trans H; with_reducible exact H2_) | with_reducible exact H | (rw [hy193]; exact H) | exact H
                          have Ny193 := Aside0.mk hy193
                          clear hy193
                          have H' := Aside0.mk H
                          clear H
                          obtain ⟨Ao81, co81, eo81⟩ := Kd.R_slice HO_8.out
                          subst eo81
                          have p192 : 0 ≤ (x9_1 : Int) := of_decide_eq_true (by first | (with_reducible assumption) | assumption)
                          have q192 : x9_1 < (t156.length : Int) := of_decide_eq_true (by first | (with_reducible assumption) | assumption)
                          obtain ⟨ad192, e192, hx192_0⟩ := Kd.at_int (Kd.R_reads' HO_7.out).2.2 x9_1 p192 q192
                          obtain rfl : ad159 = ad192 := (by injection e192)
                          replace p192 := eq_true p192
                          replace q192 := eq_true q192
                          go_wp2_with (first | ((with_reducible refine gate_builtin (b := .append) (xs := #[.tmp 111, .tmp 118]) rfl ?_); (try (refine gate_guard (by rfl) ?_; dsimp only)); at_builtin; refine Kd.R_append k32 (w0 := w) w.heap.size rfl (.tmp 111) (.tmp 118) 22 32 (.agg #[(.int .i64 0), (.int .i64 0)]) 16 rfl Try.underlying22 info32 rfl (by decide) (by omega) (.slice Ao81 x8_1.length co81) x8_1 (⟨rd t156 x9_1, 9223372036854775807⟩ : S32) [.int .i64 (rd t156 x9_1), .int .i64 9223372036854775807] (fun _ => True) (fun _ => False) rfl rfl ?aP (fun _ hk => hk.elim) ?aF ?aO ?aB ?aS ?aL ?_; (case aP => exact k32_mkM _ _ _ (⟨rd t156 x9_1, 9223372036854775807⟩ : S32)); (case aB => exact (by repeat (first | (with_reducible first | exact HB.out | apply below_alloc | apply pw_below_drewN | apply below_drew1) | exact HB.out))); (case aF => exact (fun _ _ => trivial)); (case aO => exact (by (with_reducible repeat (first | apply Kd.R_alloc | apply Kd.R_drewN | apply Kd.R_drew)); exact HO_8.out)); (case aS => exact (below_size (by repeat (first | (with_reducible first | exact HB.out | apply below_alloc | apply pw_below_drewN | apply below_drew1) | exact HB.out)))); (case aL => have := LMc80.out; omega); intro v194 w82 ho hb hg hat; rw [← Ny193.out] at ho; have n0_ := Aside0.mk (Kd.R_over' (by (with_reducible repeat (first | apply Kd.R_alloc | apply Kd.R_drewN | apply Kd.R_drew)); exact HO_7.out) (Kd.R_typed (by (with_reducible repeat (first | apply Kd.R_alloc | apply Kd.R_drewN | apply Kd.R_drew)); exact HO_8.out)) (by decide) hg); have n1_ := Aside0.mk (hb); have n2_ := Aside0.mk (ho); clear HO_7; clear HB; clear HO_8; have HO_7 := n0_; have HB := n1_; have HO195 := n2_; clear n0_ n1_ n2_; clear ho hb hg hat))
                          repeat (go_quiet (first | ((with_reducible refine gate_builtin (b := .append) (xs := #[.tmp 111, .tmp 118]) rfl ?_); (try (refine gate_guard (by rfl) ?_; dsimp only)); at_builtin; refine Kd.R_append k32 (w0 := w) w.heap.size rfl (.tmp 111) (.tmp 118) 22 32 (.agg #[(.int .i64 0), (.int .i64 0)]) 16 rfl Try.underlying22 info32 rfl (by decide) (by omega) (.slice Ao81 x8_1.length co81) x8_1 (⟨rd t156 x9_1, 9223372036854775807⟩ : S32) [.int .i64 (rd t156 x9_1), .int .i64 9223372036854775807] (fun _ => True) (fun _ => False) rfl rfl ?aP (fun _ hk => hk.elim) ?aF ?aO ?aB ?aS ?aL ?_; (case aP => exact k32_mkM _ _ _ (⟨rd t156 x9_1, 9223372036854775807⟩ : S32)); (case aB => exact (by repeat (first | (with_reducible first | exact HB.out | apply below_alloc | apply pw_below_drewN | apply below_drew1) | exact HB.out))); (case aF => exact (fun _ _ => trivial)); (case aO => exact (by (with_reducible repeat (first | apply Kd.R_alloc | apply Kd.R_drewN | apply Kd.R_drew)); exact HO_8.out)); (case aS => exact (below_size (by repeat (first | (with_reducible first | exact HB.out | apply below_alloc | apply pw_below_drewN | apply below_drew1) | exact HB.out)))); (case aL => have := LMc80.out; omega); intro v194 w82 ho hb hg hat; rw [← Ny193.out] at ho; have n0_ := Aside0.mk (Kd.R_over' (by (with_reducible repeat (first | apply Kd.R_alloc | apply Kd.R_drewN | apply Kd.R_drew)); exact HO_7.out) (Kd.R_typed (by (with_reducible repeat (first | apply Kd.R_alloc | apply Kd.R_drewN | apply Kd.R_drew)); exact HO_8.out)) (by decide) hg); have n1_ := Aside0.mk (hb); have n2_ := Aside0.mk (ho); clear HO_7; clear HB; clear HO_8; have HO_7 := n0_; have HB := n1_; have HO195 := n2_; clear n0_ n1_ n2_; clear ho hb hg hat)); try go_wp2_with (first | ((with_reducible refine gate_builtin (b := .append) (xs := #[.tmp 111, .tmp 118]) rfl ?_); (try (refine gate_guard (by rfl) ?_; dsimp only)); at_builtin; refine Kd.R_append k32 (w0 := w) w.heap.size rfl (.tmp 111) (.tmp 118) 22 32 (.agg #[(.int .i64 0), (.int .i64 0)]) 16 rfl Try.underlying22 info32 rfl (by decide) (by omega) (.slice Ao81 x8_1.length co81) x8_1 (⟨rd t156 x9_1, 9223372036854775807⟩ : S32) [.int .i64 (rd t156 x9_1), .int .i64 9223372036854775807] (fun _ => True) (fun _ => False) rfl rfl ?aP (fun _ hk => hk.elim) ?aF ?aO ?aB ?aS ?aL ?_; (case aP => exact k32_mkM _ _ _ (⟨rd t156 x9_1, 9223372036854775807⟩ : S32)); (case aB => exact (by repeat (first | (with_reducible first | exact HB.out | apply below_alloc | apply pw_below_drewN | apply below_drew1) | exact HB.out))); (case aF => exact (fun _ _ => trivial)); (case aO => exact (by (with_reducible repeat (first | apply Kd.R_alloc | apply Kd.R_drewN | apply Kd.R_drew)); exact HO_8.out)); (case aS => exact (below_size (by repeat (first | (with_reducible first | exact HB.out | apply below_alloc | apply pw_below_drewN | apply below_drew1) | exact HB.out)))); (case aL => have := LMc80.out; omega); intro v194 w82 ho hb hg hat; rw [← Ny193.out] at ho; have n0_ := Aside0.mk (Kd.R_over' (by (with_reducible repeat (first | apply Kd.R_alloc | apply Kd.R_drewN | apply Kd.R_drew)); exact HO_7.out) (Kd.R_typed (by (with_reducible repeat (first | apply Kd.R_alloc | apply Kd.R_drewN | apply Kd.R_drew)); exact HO_8.out)) (by decide) hg); have n1_ := Aside0.mk (hb); have n2_ := Aside0.mk (ho); clear HO_7; clear HB; clear HO_8; have HO_7 := n0_; have HB := n1_; have HO195 := n2_; clear n0_ n1_ n2_; clear ho hb hg hat)))
                          go_roundg kj15
                          case measure => have := HK1.out; have := HJ15.out; omega
                          case rel => exact ⟨(y193), (wrap64 (x9_1 + 1)), (by first | rfl | (simp; done) | (simp [*]; done)), H', ⟨by have := HK1.out; have := HJ15.out; omega⟩, ⟨by (with_reducible repeat (first | apply Kd.R_alloc | apply Kd.R_drewN | apply Kd.R_drew)); exact HO_7.out⟩, ⟨by (with_reducible repeat (first | apply Kd.R_alloc | apply Kd.R_drewN | apply Kd.R_drew)); exact HO195.out⟩, ⟨by repeat (first | (with_reducible first | exact HB.out | apply below_alloc | apply pw_below_drewN | apply below_drew1) | exact HB.out)⟩⟩
                        · rw [if_neg c80] at H
                          exact absurd H (by simp)
                      · rw [if_neg c79] at H
                        exact absurd H (by simp)
                    · rw [if_neg c78] at H
                      exact absurd H (by simp)
        · rw [if_neg c13] at H
          exact absurd H (by simp)
      · rw [if_neg c12] at H
        have c12b0 : decide (x9_1 < (t156.length : Int)) = false := decide_eq_false c12
        clear c12
        obtain rfl := Option.some.inj H
        obtain ⟨Ao83, co83, eo83⟩ := Kd.R_slice HO_7.out
        subst eo83
        go_wp2
        repeat (go_quiet (fail); try go_wp2)
        go_ret
        exact ⟨_, by first | rfl | (simp [errW_none, errW_some] <;> rfl) | (simp [*, errW_none, errW_some] <;> rfl), by (with_reducible repeat (first | apply Kd.R_alloc | apply Kd.R_drewN | apply Kd.R_drew)); exact HO_8.out, by repeat (first | (with_reducible first | exact HB.out | apply below_alloc | apply pw_below_drewN | apply below_drew1) | exact HB.out)⟩

end Go.Proofs.Ytkidoggmlafkgaa.Pof
