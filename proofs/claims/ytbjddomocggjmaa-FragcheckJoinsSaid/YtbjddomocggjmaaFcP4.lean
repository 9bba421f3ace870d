/- Lines that the kit's printer wrote, mended (wip/mend_print.py): a bool that is asked twice. -/
import Derived.Test.YtbjddomocggjmaaPFragcheckChecksx0
import Derived.Test.YtbjddomocggjmaaFcP3
namespace Go.Proofs.Ytbjddomocggjmaa.PFragcheckChecks
open Go.RowKit Go.Proofs.YtbjddomocggjmaaW.PrintWords Go.Proofs.YtbjddomocggjmaaW.PrintLast Go.Proofs.YtbjddomocggjmaaW.PrintMore
attribute [local go_sem] max2_int min2_int max_two min_two max_three min_three max_four min_four   -- for this text's walks alone
set_option linter.unusedVariables false
set_option linter.unusedSimpArgs false

/-! ### spandrelref18_body: function 62 -/
mutual
def spandrelref18_body.j0 : Nat → List (S32) → Int → Bool → Option (Bool)
  | 0, _, _, _ => none
  | k + 1, x0, x1, x13 => if x13 = true then (some false) else (spandrelref18_body.l0 k x0 x1 0)
def spandrelref18_body.l0 : Nat → List (S32) → Int → Int → Option (Bool)
  | 0, _, _, _ => none
  | k + 1, x0, x1, x5 => if x5 < (x0.length : Int) then (if 0 ≤ x5 then (if ((rd_T32 x0 x5).f0) = 2 then ((spandrelref18_Function.f k ((rd_T32 x0 x5).f1)).bind fun t148 => (if t148 = true then (if (wrap64 ((wrap64 ((((rd_T32 x0 x5).f2).length : Int) + (((rd_T32 x0 x5).f3).length : Int))) + (((rd_T32 x0 x5).f4).length : Int))) > 0 then (some false) else (spandrelref18_body.l0 k x0 x1 (wrap64 (x5 + 1)))) else (some false))) else (if ((rd_T32 x0 x5).f0) = 1 then ((spandrelref18_Method.f k ((rd_T32 x0 x5).f1)).bind fun t149 => (if t149 = true then ((spandrelref18_args.f k ((rd_T32 x0 x5).f2)).bind fun t150 => (spandrelref18_body.j2 k x0 x1 x5 (!t150) ((rd_T32 x0 x5).f0) ((rd_T32 x0 x5).f1) ((rd_T32 x0 x5).f2) ((rd_T32 x0 x5).f3) ((rd_T32 x0 x5).f4))) else (spandrelref18_body.j2 k x0 x1 x5 true ((rd_T32 x0 x5).f0) ((rd_T32 x0 x5).f1) ((rd_T32 x0 x5).f2) ((rd_T32 x0 x5).f3) ((rd_T32 x0 x5).f4)))) else (if ((rd_T32 x0 x5).f0) = 3 then ((spandrelref18_Method.f k ((rd_T32 x0 x5).f1)).bind fun t151 => (if t151 = true then ((spandrelref18_args.f k ((rd_T32 x0 x5).f2)).bind fun t152 => (spandrelref18_body.j2 k x0 x1 x5 (!t152) ((rd_T32 x0 x5).f0) ((rd_T32 x0 x5).f1) ((rd_T32 x0 x5).f2) ((rd_T32 x0 x5).f3) ((rd_T32 x0 x5).f4))) else (spandrelref18_body.j2 k x0 x1 x5 true ((rd_T32 x0 x5).f0) ((rd_T32 x0 x5).f1) ((rd_T32 x0 x5).f2) ((rd_T32 x0 x5).f3) ((rd_T32 x0 x5).f4)))) else (if ((rd_T32 x0 x5).f0) = 4 then ((spandrelref18_Method.f k ((rd_T32 x0 x5).f1)).bind fun t153 => (if t153 = true then ((spandrelref18_args.f k ((rd_T32 x0 x5).f2)).bind fun t154 => (spandrelref18_body.j2 k x0 x1 x5 (!t154) ((rd_T32 x0 x5).f0) ((rd_T32 x0 x5).f1) ((rd_T32 x0 x5).f2) ((rd_T32 x0 x5).f3) ((rd_T32 x0 x5).f4))) else (spandrelref18_body.j2 k x0 x1 x5 true ((rd_T32 x0 x5).f0) ((rd_T32 x0 x5).f1) ((rd_T32 x0 x5).f2) ((rd_T32 x0 x5).f3) ((rd_T32 x0 x5).f4)))) else (spandrelref18_body.j2 k x0 x1 x5 true ((rd_T32 x0 x5).f0) ((rd_T32 x0 x5).f1) ((rd_T32 x0 x5).f2) ((rd_T32 x0 x5).f3) ((rd_T32 x0 x5).f4)))))) else (none)) else (some true)
def spandrelref18_body.j2 : Nat → List (S32) → Int → Int → Bool → Int → ByteArray → List (S73) → List (S32) → List (S32) → Option (Bool)
  | 0, _, _, _, _, _, _, _, _, _ => none
  | k + 1, x0, x1, x5, x69, x148000, x148001, x148002, x148003, x148004 => if x69 = true then (some false) else (if x148000 = 1 then (if (x148003.length : Int) > 0 then (some false) else (if x148000 = 3 then ((spandrelref18_body.f k x148003 (wrap64 (x1 + 1))).bind fun t155 => (if t155 = true then ((spandrelref18_body.f k x148004 (wrap64 (x1 + 1))).bind fun t156 => (if t156 = true then (spandrelref18_body.l0 k x0 x1 (wrap64 (x5 + 1))) else (some false))) else (some false))) else (if (x148004.length : Int) > 0 then (some false) else ((spandrelref18_body.f k x148003 (wrap64 (x1 + 1))).bind fun t157 => (if t157 = true then ((spandrelref18_body.f k x148004 (wrap64 (x1 + 1))).bind fun t158 => (if t158 = true then (spandrelref18_body.l0 k x0 x1 (wrap64 (x5 + 1))) else (some false))) else (some false)))))) else (if x148000 = 3 then ((spandrelref18_body.f k x148003 (wrap64 (x1 + 1))).bind fun t159 => (if t159 = true then ((spandrelref18_body.f k x148004 (wrap64 (x1 + 1))).bind fun t160 => (if t160 = true then (spandrelref18_body.l0 k x0 x1 (wrap64 (x5 + 1))) else (some false))) else (some false))) else (if (x148004.length : Int) > 0 then (some false) else ((spandrelref18_body.f k x148003 (wrap64 (x1 + 1))).bind fun t161 => (if t161 = true then ((spandrelref18_body.f k x148004 (wrap64 (x1 + 1))).bind fun t162 => (if t162 = true then (spandrelref18_body.l0 k x0 x1 (wrap64 (x5 + 1))) else (some false))) else (some false))))))
def spandrelref18_body.f : Nat → List (S32) → Int → Option (Bool)
  | 0, _, _ => none
  | k + 1, l0, a1 => if (l0.length : Int) > 0 then (spandrelref18_body.j0 k l0 a1 (decide (a1 > 40))) else (spandrelref18_body.j0 k l0 a1 false)
end
theorem spandrelref18_body.mono_l : ∀ k, (∀ y0 y1, LeO (spandrelref18_body.f k y0 y1) (spandrelref18_body.f (k + 1) y0 y1)) ∧ (∀ y0 y1 y2, LeO (spandrelref18_body.j0 k y0 y1 y2) (spandrelref18_body.j0 (k + 1) y0 y1 y2)) ∧ (∀ y0 y1 y2, LeO (spandrelref18_body.l0 k y0 y1 y2) (spandrelref18_body.l0 (k + 1) y0 y1 y2)) ∧ (∀ y0 y1 y2 y3 y4 y5 y6 y7 y8, LeO (spandrelref18_body.j2 k y0 y1 y2 y3 y4 y5 y6 y7 y8) (spandrelref18_body.j2 (k + 1) y0 y1 y2 y3 y4 y5 y6 y7 y8))
  | 0 => ⟨fun _ _ r h => by simp [spandrelref18_body.f] at h, fun _ _ _ r h => by simp [spandrelref18_body.j0] at h, fun _ _ _ r h => by simp [spandrelref18_body.l0] at h, fun _ _ _ _ _ _ _ _ _ r h => by simp [spandrelref18_body.j2] at h⟩
  | k + 1 => by
    obtain ⟨ih0, ih1, ih2, ih3⟩ := spandrelref18_body.mono_l k
    refine ⟨?_, ?_, ?_, ?_⟩
    · intro y0 y1
      unfold spandrelref18_body.f
      repeat' first
      | (with_reducible exact ih0 _ _)
      | (with_reducible exact ih1 _ _ _)
      | (with_reducible exact ih2 _ _ _)
      | (with_reducible exact ih3 _ _ _ _ _ _ _ _ _)
      | (with_reducible exact spandrelref18_Function.mono _ _)
      | (with_reducible exact spandrelref18_Method.mono _ _)
      | (with_reducible exact spandrelref18_args.mono _ _)
      | (with_reducible exact LeO.refl _)
      | (with_reducible exact LeO.none _)
      | (with_reducible refine LeO.ite ?_ ?_)
      | (with_reducible refine LeO.bind ?_ (fun _ => ?_))
      | exact ih0 _ _
      | exact ih1 _ _ _
      | exact ih2 _ _ _
      | exact ih3 _ _ _ _ _ _ _ _ _
      | exact spandrelref18_Function.mono _ _
      | exact spandrelref18_Method.mono _ _
      | exact spandrelref18_args.mono _ _
      | exact LeO.none _
      | refine LeO.ite ?_ ?_
      | refine LeO.bind ?_ (fun _ => ?_)
    · intro y0 y1 y2
      unfold spandrelref18_body.j0
      repeat' first
      | (with_reducible exact ih0 _ _)
      | (with_reducible exact ih1 _ _ _)
      | (with_reducible exact ih2 _ _ _)
      | (with_reducible exact ih3 _ _ _ _ _ _ _ _ _)
      | (with_reducible exact spandrelref18_Function.mono _ _)
      | (with_reducible exact spandrelref18_Method.mono _ _)
      | (with_reducible exact spandrelref18_args.mono _ _)
      | (with_reducible exact LeO.refl _)
      | (with_reducible exact LeO.none _)
      | (with_reducible refine LeO.ite ?_ ?_)
      | (with_reducible refine LeO.bind ?_ (fun _ => ?_))
      | exact ih0 _ _
      | exact ih1 _ _ _
      | exact ih2 _ _ _
      | exact ih3 _ _ _ _ _ _ _ _ _
      | exact spandrelref18_Function.mono _ _
      | exact spandrelref18_Method.mono _ _
      | exact spandrelref18_args.mono _ _
      | exact LeO.none _
      | refine LeO.ite ?_ ?_
      | refine LeO.bind ?_ (fun _ => ?_)
    · intro y0 y1 y2
      unfold spandrelref18_body.l0
      repeat' first
      | (with_reducible exact ih0 _ _)
      | (with_reducible exact ih1 _ _ _)
      | (with_reducible exact ih2 _ _ _)
      | (with_reducible exact ih3 _ _ _ _ _ _ _ _ _)
      | (with_reducible exact spandrelref18_Function.mono _ _)
      | (with_reducible exact spandrelref18_Method.mono _ _)
      | (with_reducible exact spandrelref18_args.mono _ _)
      | (with_reducible exact LeO.refl _)
      | (with_reducible exact LeO.none _)
      | (with_reducible refine LeO.ite ?_ ?_)
      | (with_reducible refine LeO.bind ?_ (fun _ => ?_))
      | exact ih0 _ _
      | exact ih1 _ _ _
      | exact ih2 _ _ _
      | exact ih3 _ _ _ _ _ _ _ _ _
      | exact spandrelref18_Function.mono _ _
      | exact spandrelref18_Method.mono _ _
      | exact spandrelref18_args.mono _ _
      | exact LeO.none _
      | refine LeO.ite ?_ ?_
      | refine LeO.bind ?_ (fun _ => ?_)
    · intro y0 y1 y2 y3 y4 y5 y6 y7 y8
      unfold spandrelref18_body.j2
      repeat' first
      | (with_reducible exact ih0 _ _)
      | (with_reducible exact ih1 _ _ _)
      | (with_reducible exact ih2 _ _ _)
      | (with_reducible exact ih3 _ _ _ _ _ _ _ _ _)
      | (with_reducible exact spandrelref18_Function.mono _ _)
      | (with_reducible exact spandrelref18_Method.mono _ _)
      | (with_reducible exact spandrelref18_args.mono _ _)
      | (with_reducible exact LeO.refl _)
      | (with_reducible exact LeO.none _)
      | (with_reducible refine LeO.ite ?_ ?_)
      | (with_reducible refine LeO.bind ?_ (fun _ => ?_))
      | exact ih0 _ _
      | exact ih1 _ _ _
      | exact ih2 _ _ _
      | exact ih3 _ _ _ _ _ _ _ _ _
      | exact spandrelref18_Function.mono _ _
      | exact spandrelref18_Method.mono _ _
      | exact spandrelref18_args.mono _ _
      | exact LeO.none _
      | refine LeO.ite ?_ ?_
      | refine LeO.bind ?_ (fun _ => ?_)
theorem spandrelref18_body.mono : ∀ a0 a1 k, LeO (spandrelref18_body.f k a0 a1) (spandrelref18_body.f (k + 1) a0 a1) := by
  intro a0 a1 k
  obtain ⟨ih0, ih1, ih2, ih3⟩ := spandrelref18_body.mono_l k
  exact ih0 a0 a1
set_option maxHeartbeats 8000000 in
set_option maxRecDepth 100000 in
theorem spandrelref18_body.calls (k : Nat) : ∀ (A0 : Option Addr) (c0 : Nat) (l0 : List (S32)) (a1 : Int) (r : Bool) (w : World) (hr0 : Kd.C k32 w A0 l0.length l0) (hc0 : l0.length ≤ c0) (h : spandrelref18_body.f k l0 a1 = some r),
    Calls Try.prog 62 #[.slice A0 l0.length c0, .int .i64 a1] w fun e w' => e = .returned (.bool r) ∧ Below w.heap.size w w' := by
  induction k using Nat.strongRecOn with
  | _ k ih =>
  intro A0 c0 l0 a1 r w hr0 hc0 h
  cases k with
  | zero => exact absurd h (by simp [spandrelref18_body.f])
  | succ k =>
  simp only [spandrelref18_body.f] at h
  have hu32 := Try.underlying32
  have HR0 := Aside0.mk hr0
  have HC0 := Aside0.mk hc0
  clear hr0 hc0
  have HB := Aside0.mk (Below.refl w.heap.size w)
  have H : (if (l0.length : Int) > 0 then (spandrelref18_body.j0 k l0 a1 (decide (a1 > 40))) else (spandrelref18_body.j0 k l0 a1 false)) = some r := h
  clear h
  have HC3 := Aside0.mk H
  clear H
  go_enter Try.func62, Try.ntmps62
  go_upto_region 1 with (fail)
  go_cut [13] (fun v13 wc => ∃ (kq : Nat) (x13_2 : Bool), v13 = .bool x13_2 ∧ Aside0 (spandrelref18_body.j0 kq l0 a1 x13_2 = some r) ∧ Aside0 (kq ≤ k) ∧ Aside0 (Below w.heap.size w wc))
  case first =>
    have H := HC3.out
    clear HC3
    by_cases c4 : (l0.length : Int) > 0
    · rw [if_pos c4] at H
      have c4b0 : decide (0 < (l0.length : Int)) = true := decide_eq_true c4
      have c4b1 : decide (0 < l0.length) = true := decide_eq_true (by omega)
      clear c4
      (first | rw [c4b0] | (simp only [i64_w, i32_w]; rw [c4b0]) | skip)
      have H' := Aside0.mk H
      clear H
      go_wp2
      go_meet
      case rel => exact ⟨_, (decide (a1 > 40)), (by first | rfl | (simp; done) | (simp [*]; done)), H', ⟨by first | omega | exact Nat.le_refl _⟩, ⟨by repeat (first | (with_reducible first | exact HB.out | apply below_alloc | apply pw_below_drewN | apply below_drew1) | exact HB.out)⟩⟩
    · rw [if_neg c4] at H
      have c4b0 : decide (0 < (l0.length : Int)) = false := decide_eq_false c4
      have c4b1 : decide (0 < l0.length) = false := decide_eq_false (by omega)
      clear c4
      (first | rw [c4b0] | (simp only [i64_w, i32_w]; rw [c4b0]) | skip)
      have H' := Aside0.mk H
      clear H
      go_wp2
      go_meet
      case rel => exact ⟨_, (false), (by first | rfl | (simp; done) | (simp [*]; done)), H', ⟨by first | omega | exact Nat.le_refl _⟩, ⟨by repeat (first | (with_reducible first | exact HB.out | apply below_alloc | apply pw_below_drewN | apply below_drew1) | exact HB.out)⟩⟩
  case rest =>
    clear HC3
    try clear p2
    try clear c4
    try clear c4b0
    try clear c4b1
    obtain ⟨kq, x13_2, rfl, HA, HJ2, HB⟩ := hcut
    cases kq with
    | zero => exact absurd HA.out (by simp [spandrelref18_body.j0])
    | succ kj2 =>
      have H := HA.out
      clear HA
      simp only [spandrelref18_body.j0] at H
      by_cases c5 : x13_2 = true
      · subst c5
        have H1 : (some false) = some r := by rw [if_pos rfl] at H; exact H
        clear H
        have H := H1
        clear H1
        obtain rfl := Option.some.inj H
        go_wp2
        go_ret
        exact ⟨by first | rfl | (simp [errW_none, errW_some] <;> rfl) | (simp [*, errW_none, errW_some] <;> rfl), by repeat (first | (with_reducible first | exact HB.out | apply below_alloc | apply pw_below_drewN | apply below_drew1) | exact HB.out)⟩
      · replace c5 := Bool.eq_false_iff.mpr c5
        subst c5
        have H1 : (spandrelref18_body.l0 kj2 l0 a1 0) = some r := by rw [if_neg (show ¬ (false = true) by decide)] at H; exact H
        clear H
        have H := H1
        clear H1
        have H' := Aside0.mk H
        clear H
        go_wp2
        go_loopg [5] kj2 (fun kq v5 w' => ∃ (x5_2 : Int), v5 = .int .i64 x5_2 ∧ Aside0 (spandrelref18_body.l0 kq l0 a1 x5_2 = some r) ∧ Aside0 (kq ≤ kj2) ∧ Aside0 (Below w.heap.size w w'))
        case atStart => exact ⟨(0), (by first | rfl | (simp; done) | (simp [*]; done)), H', ⟨Nat.le_refl _⟩, ⟨by repeat (first | (with_reducible first | exact HB.out | apply below_alloc | apply pw_below_drewN | apply below_drew1) | exact HB.out)⟩⟩
        case round =>
          clear H'
          try clear p2
          try clear c4
          try clear c4b0
          try clear c4b1
          try clear c5
          try clear p2
          obtain ⟨x5_2, rfl, HA, HK2, HB⟩ := hrel
          cases gk with
          | zero => exact absurd HA.out (by simp [spandrelref18_body.l0])
          | succ k2 =>
            have H := HA.out
            clear HA
            simp only [spandrelref18_body.l0] at H
            by_cases c6 : x5_2 < (l0.length : Int)
            · rw [if_pos c6] at H
              have c6b0 : decide (x5_2 < (l0.length : Int)) = true := decide_eq_true c6
              clear c6
              by_cases c7 : 0 ≤ x5_2
              · rw [if_pos c7] at H
                have c7b0 : decide (0 ≤ x5_2) = true := decide_eq_true c7
                clear c7
                by_cases c8 : ((rd_T32 l0 x5_2).f0) = 2
                · rw [if_pos c8] at H
                  have c8b0 : (((rd_T32 l0 x5_2).f0) == 2) = true := beq_iff_eq.mpr c8
                  have c8b1 : (((rd_T32 l0 x5_2).f0) != 2) = false := bne_eq_false_iff_eq.mpr c8
                  clear c8
                  replace H := Option.bind_eq_some_iff.mp H
                  obtain ⟨t148, A90, H⟩ := H
                  replace H : (if t148 = true then (if (wrap64 ((wrap64 ((((rd_T32 l0 x5_2).f2).length : Int) + (((rd_T32 l0 x5_2).f3).length : Int))) + (((rd_T32 l0 x5_2).f4).length : Int))) > 0 then (some false) else (spandrelref18_body.l0 k2 l0 a1 (wrap64 (x5_2 + 1)))) else (some false)) = some r := H
                  have A9 := Aside0.mk A90
                  clear A90
                  by_cases c10 : t148 = true
                  · subst c10
                    have H1 : (if (wrap64 ((wrap64 ((((rd_T32 l0 x5_2).f2).length : Int) + (((rd_T32 l0 x5_2).f3).length : Int))) + (((rd_T32 l0 x5_2).f4).length : Int))) > 0 then (some false) else (spandrelref18_body.l0 k2 l0 a1 (wrap64 (x5_2 + 1)))) = some r := by rw [if_pos rfl] at H; exact H
                    clear H
                    have H := H1
                    clear H1
                    by_cases c11 : (wrap64 ((wrap64 ((((rd_T32 l0 x5_2).f2).length : Int) + (((rd_T32 l0 x5_2).f3).length : Int))) + (((rd_T32 l0 x5_2).f4).length : Int))) > 0
                    · rw [if_pos c11] at H
                      have c11b0 : decide (0 < (wrap64 ((wrap64 ((((rd_T32 l0 x5_2).f2).length : Int) + (((rd_T32 l0 x5_2).f3).length : Int))) + (((rd_T32 l0 x5_2).f4).length : Int)))) = true := decide_eq_true c11
                      clear c11
                      obtain rfl := Option.some.inj H
                      have p146 : 0 ≤ (x5_2 : Int) := of_decide_eq_true (by first | (with_reducible assumption) | assumption)
                      have q146 : x5_2 < (l0.length : Int) := of_decide_eq_true (by first | (with_reducible assumption) | assumption)
                      obtain ⟨ad146, A146_2, c146_2, A146_3, c146_3, A146_4, c146_4, e146, hx146_0, hx146_1, hx146_2, hx146_3, hx146_4, hl146_2, hi146_2, hl146_3, hi146_3, hl146_4, hi146_4⟩ := at_T32 HR0.out x5_2 p146 q146
                      cases e146
                      replace hx146_0 := (HB.out.cell (World.block_lt_of_cell? w _ hx146_0)).trans hx146_0
                      replace hx146_1 := (HB.out.cell (World.block_lt_of_cell? w _ hx146_1)).trans hx146_1
                      replace hx146_2 := (HB.out.cell (World.block_lt_of_cell? w _ hx146_2)).trans hx146_2
                      replace hx146_3 := (HB.out.cell (World.block_lt_of_cell? w _ hx146_3)).trans hx146_3
                      replace hx146_4 := (HB.out.cell (World.block_lt_of_cell? w _ hx146_4)).trans hx146_4
                      have HR146_2 := Aside0.mk hi146_2
                      have HC146_2 := Aside0.mk hl146_2
                      clear hi146_2 hl146_2
                      have HR146_3 := Aside0.mk hi146_3
                      have HC146_3 := Aside0.mk hl146_3
                      clear hi146_3 hl146_3
                      have HR146_4 := Aside0.mk hi146_4
                      have HC146_4 := Aside0.mk hl146_4
                      clear hi146_4 hl146_4
                      replace p146 := eq_true p146
                      replace q146 := eq_true q146
                      go_wp2_with (first | ((with_reducible refine gate_dst (N := 6) rfl ?_); (try (refine gate_guard (by rfl) ?_; dsimp only)); refine box_event ?hg (N := 6) ?hd (cs := #[.int .i64 0, .string (⟨#[]⟩ : ByteArray), .slice none 0 0, .slice none 0 0, .slice none 0 0]) (t := 32) ?hr ?_; (case hd => rfl); (case hg => rfl); (case hr => first | (go_simp; done) | (go_simp; rfl)); intro gb147 hg w12 hbox hb; have n0_ := Aside0.mk (below_step (by repeat (first | (with_reducible first | exact HB.out | apply below_alloc | apply pw_below_drewN | apply below_drew1) | exact HB.out)) hb); have n1_ := Aside0.mk (hbox); have n2_ := Aside0.mk ((by rw [hg]; exact (below_size (by repeat (first | (with_reducible first | exact HB.out | apply below_alloc | apply pw_below_drewN | apply below_drew1) | exact HB.out))) : w.heap.size ≤ gb147)); have n3_ := Aside0.mk ((by rw [hg]; exact (below_size (by repeat (first | (with_reducible first | exact HB.out | apply below_alloc | apply pw_below_drewN | apply below_drew1) | exact HB.out))) : w.heap.size ≤ gb147)); clear HB; have HB := n0_; have BK147 := n1_; have GW147 := n2_; have GE147 := n3_; clear n0_ n1_ n2_ n3_; clear hb hbox hg; have hcz13_0 : w12.cell? ⟨gb147, 0, none⟩ = some (.int .i64 0) := (blk_cell BK147.out 0).trans rfl; have hcz13_1 : w12.cell? ⟨gb147, 1, none⟩ = some (.string (⟨#[]⟩ : ByteArray)) := (blk_cell BK147.out 1).trans rfl; have hcz13_2 : w12.cell? ⟨gb147, 2, none⟩ = some (.slice none 0 0) := (blk_cell BK147.out 2).trans rfl; have hcz13_3 : w12.cell? ⟨gb147, 3, none⟩ = some (.slice none 0 0) := (blk_cell BK147.out 3).trans rfl; have hcz13_4 : w12.cell? ⟨gb147, 4, none⟩ = some (.slice none 0 0) := (blk_cell BK147.out 4).trans rfl; have hfz13_0 := blk_frozen BK147.out 0; have hfz13_1 := blk_frozen BK147.out 1; have hfz13_2 := blk_frozen BK147.out 2; have hfz13_3 := blk_frozen BK147.out 3; have hfz13_4 := blk_frozen BK147.out 4) | ((with_reducible refine gate_callee (f := 61) rfl ?_); refine goesL_ (some 29) rfl rfl Try.func61 (by kernel_rfl) rfl #[.string ((rd_T32 l0 x5_2).f1)] rfl (by (try simp only [List.map_toArray, List.map_cons, List.map_nil]); first | done | rfl | (simp only [List.length_drop, List.length_take]; rfl)) ?_; (with_reducible refine (spandrelref18_Function.calls k2 ((rd_T32 l0 x5_2).f1) true _ A9.out).mono ?_); rintro e w' ⟨rfl, ⟨nd, rfl⟩⟩; refine ⟨_, rfl, ?_⟩))
                      go_ret
                      exact ⟨by first | rfl | (simp [errW_none, errW_some] <;> rfl) | (simp [*, errW_none, errW_some] <;> rfl), by repeat (first | (with_reducible first | exact HB.out | apply below_alloc | apply pw_below_drewN | apply below_drew1 | refine below_set ?_ GE147.out) | exact HB.out)⟩
                    · rw [if_neg c11] at H
                      have c11b0 : decide (0 < (wrap64 ((wrap64 ((((rd_T32 l0 x5_2).f2).length : Int) + (((rd_T32 l0 x5_2).f3).length : Int))) + (((rd_T32 l0 x5_2).f4).length : Int)))) = false := decide_eq_false c11
                      clear c11
                      have H' := Aside0.mk H
                      clear H
                      have p146 : 0 ≤ (x5_2 : Int) := of_decide_eq_true (by first | (with_reducible assumption) | assumption)
                      have q146 : x5_2 < (l0.length : Int) := of_decide_eq_true (by first | (with_reducible assumption) | assumption)
                      obtain ⟨ad146, A146_2, c146_2, A146_3, c146_3, A146_4, c146_4, e146, hx146_0, hx146_1, hx146_2, hx146_3, hx146_4, hl146_2, hi146_2, hl146_3, hi146_3, hl146_4, hi146_4⟩ := at_T32 HR0.out x5_2 p146 q146
                      cases e146
                      replace hx146_0 := (HB.out.cell (World.block_lt_of_cell? w _ hx146_0)).trans hx146_0
                      replace hx146_1 := (HB.out.cell (World.block_lt_of_cell? w _ hx146_1)).trans hx146_1
                      replace hx146_2 := (HB.out.cell (World.block_lt_of_cell? w _ hx146_2)).trans hx146_2
                      replace hx146_3 := (HB.out.cell (World.block_lt_of_cell? w _ hx146_3)).trans hx146_3
                      replace hx146_4 := (HB.out.cell (World.block_lt_of_cell? w _ hx146_4)).trans hx146_4
                      have HR146_2 := Aside0.mk hi146_2
                      have HC146_2 := Aside0.mk hl146_2
                      clear hi146_2 hl146_2
                      have HR146_3 := Aside0.mk hi146_3
                      have HC146_3 := Aside0.mk hl146_3
                      clear hi146_3 hl146_3
                      have HR146_4 := Aside0.mk hi146_4
                      have HC146_4 := Aside0.mk hl146_4
                      clear hi146_4 hl146_4
                      replace p146 := eq_true p146
                      replace q146 := eq_true q146
                      go_wp2_with (first | ((with_reducible refine gate_dst (N := 6) rfl ?_); (try (refine gate_guard (by rfl) ?_; dsimp only)); refine box_event ?hg (N := 6) ?hd (cs := #[.int .i64 0, .string (⟨#[]⟩ : ByteArray), .slice none 0 0, .slice none 0 0, .slice none 0 0]) (t := 32) ?hr ?_; (case hd => rfl); (case hg => rfl); (case hr => first | (go_simp; done) | (go_simp; rfl)); intro gb147 hg w14 hbox hb; have n0_ := Aside0.mk (below_step (by repeat (first | (with_reducible first | exact HB.out | apply below_alloc | apply pw_below_drewN | apply below_drew1) | exact HB.out)) hb); have n1_ := Aside0.mk (hbox); have n2_ := Aside0.mk ((by rw [hg]; exact (below_size (by repeat (first | (with_reducible first | exact HB.out | apply below_alloc | apply pw_below_drewN | apply below_drew1) | exact HB.out))) : w.heap.size ≤ gb147)); have n3_ := Aside0.mk ((by rw [hg]; exact (below_size (by repeat (first | (with_reducible first | exact HB.out | apply below_alloc | apply pw_below_drewN | apply below_drew1) | exact HB.out))) : w.heap.size ≤ gb147)); clear HB; have HB := n0_; have BK147 := n1_; have GW147 := n2_; have GE147 := n3_; clear n0_ n1_ n2_ n3_; clear hb hbox hg; have hcz15_0 : w14.cell? ⟨gb147, 0, none⟩ = some (.int .i64 0) := (blk_cell BK147.out 0).trans rfl; have hcz15_1 : w14.cell? ⟨gb147, 1, none⟩ = some (.string (⟨#[]⟩ : ByteArray)) := (blk_cell BK147.out 1).trans rfl; have hcz15_2 : w14.cell? ⟨gb147, 2, none⟩ = some (.slice none 0 0) := (blk_cell BK147.out 2).trans rfl; have hcz15_3 : w14.cell? ⟨gb147, 3, none⟩ = some (.slice none 0 0) := (blk_cell BK147.out 3).trans rfl; have hcz15_4 : w14.cell? ⟨gb147, 4, none⟩ = some (.slice none 0 0) := (blk_cell BK147.out 4).trans rfl; have hfz15_0 := blk_frozen BK147.out 0; have hfz15_1 := blk_frozen BK147.out 1; have hfz15_2 := blk_frozen BK147.out 2; have hfz15_3 := blk_frozen BK147.out 3; have hfz15_4 := blk_frozen BK147.out 4) | ((with_reducible refine gate_callee (f := 61) rfl ?_); refine goesL_ (some 29) rfl rfl Try.func61 (by kernel_rfl) rfl #[.string ((rd_T32 l0 x5_2).f1)] rfl (by (try simp only [List.map_toArray, List.map_cons, List.map_nil]); first | done | rfl | (simp only [List.length_drop, List.length_take]; rfl)) ?_; (with_reducible refine (spandrelref18_Function.calls k2 ((rd_T32 l0 x5_2).f1) true _ A9.out).mono ?_); rintro e w' ⟨rfl, ⟨nd, rfl⟩⟩; refine ⟨_, rfl, ?_⟩))
                      go_roundg k2
                      case measure => have := HJ2.out; have := HK2.out; omega
                      case rel => exact ⟨(wrap64 (x5_2 + 1)), (by first | rfl | (simp; done) | (simp [*]; done)), H', ⟨by have := HJ2.out; have := HK2.out; omega⟩, ⟨by repeat (first | (with_reducible first | exact HB.out | apply below_alloc | apply pw_below_drewN | apply below_drew1 | refine below_set ?_ GE147.out) | exact HB.out)⟩⟩
                  · replace c10 := Bool.eq_false_iff.mpr c10
                    subst c10
                    have H1 : (some false) = some r := by rw [if_neg (show ¬ (false = true) by decide)] at H; exact H
                    clear H
                    have H := H1
                    clear H1
                    obtain rfl := Option.some.inj H
                    have p146 : 0 ≤ (x5_2 : Int) := of_decide_eq_true (by first | (with_reducible assumption) | assumption)
                    have q146 : x5_2 < (l0.length : Int) := of_decide_eq_true (by first | (with_reducible assumption) | assumption)
                    obtain ⟨ad146, A146_2, c146_2, A146_3, c146_3, A146_4, c146_4, e146, hx146_0, hx146_1, hx146_2, hx146_3, hx146_4, hl146_2, hi146_2, hl146_3, hi146_3, hl146_4, hi146_4⟩ := at_T32 HR0.out x5_2 p146 q146
                    cases e146
                    replace hx146_0 := (HB.out.cell (World.block_lt_of_cell? w _ hx146_0)).trans hx146_0
                    replace hx146_1 := (HB.out.cell (World.block_lt_of_cell? w _ hx146_1)).trans hx146_1
                    replace hx146_2 := (HB.out.cell (World.block_lt_of_cell? w _ hx146_2)).trans hx146_2
                    replace hx146_3 := (HB.out.cell (World.block_lt_of_cell? w _ hx146_3)).trans hx146_3
                    replace hx146_4 := (HB.out.cell (World.block_lt_of_cell? w _ hx146_4)).trans hx146_4
                    have HR146_2 := Aside0.mk hi146_2
                    have HC146_2 := Aside0.mk hl146_2
                    clear hi146_2 hl146_2
                    have HR146_3 := Aside0.mk hi146_3
                    have HC146_3 := Aside0.mk hl146_3
                    clear hi146_3 hl146_3
                    have HR146_4 := Aside0.mk hi146_4
                    have HC146_4 := Aside0.mk hl146_4
                    clear hi146_4 hl146_4
                    replace p146 := eq_true p146
                    replace q146 := eq_true q146
                    go_wp2_with (first | ((with_reducible refine gate_dst (N := 6) rfl ?_); (try (refine gate_guard (by rfl) ?_; dsimp only)); refine box_event ?hg (N := 6) ?hd (cs := #[.int .i64 0, .string (⟨#[]⟩ : ByteArray), .slice none 0 0, .slice none 0 0, .slice none 0 0]) (t := 32) ?hr ?_; (case hd => rfl); (case hg => rfl); (case hr => first | (go_simp; done) | (go_simp; rfl)); intro gb147 hg w16 hbox hb; have n0_ := Aside0.mk (below_step (by repeat (first | (with_reducible first | exact HB.out | apply below_alloc | apply pw_below_drewN | apply below_drew1) | exact HB.out)) hb); have n1_ := Aside0.mk (hbox); have n2_ := Aside0.mk ((by rw [hg]; exact (below_size (by repeat (first | (with_reducible first | exact HB.out | apply below_alloc | apply pw_below_drewN | apply below_drew1) | exact HB.out))) : w.heap.size ≤ gb147)); have n3_ := Aside0.mk ((by rw [hg]; exact (below_size (by repeat (first | (with_reducible first | exact HB.out | apply below_alloc | apply pw_below_drewN | apply below_drew1) | exact HB.out))) : w.heap.size ≤ gb147)); clear HB; have HB := n0_; have BK147 := n1_; have GW147 := n2_; have GE147 := n3_; clear n0_ n1_ n2_ n3_; clear hb hbox hg; have hcz17_0 : w16.cell? ⟨gb147, 0, none⟩ = some (.int .i64 0) := (blk_cell BK147.out 0).trans rfl; have hcz17_1 : w16.cell? ⟨gb147, 1, none⟩ = some (.string (⟨#[]⟩ : ByteArray)) := (blk_cell BK147.out 1).trans rfl; have hcz17_2 : w16.cell? ⟨gb147, 2, none⟩ = some (.slice none 0 0) := (blk_cell BK147.out 2).trans rfl; have hcz17_3 : w16.cell? ⟨gb147, 3, none⟩ = some (.slice none 0 0) := (blk_cell BK147.out 3).trans rfl; have hcz17_4 : w16.cell? ⟨gb147, 4, none⟩ = some (.slice none 0 0) := (blk_cell BK147.out 4).trans rfl; have hfz17_0 := blk_frozen BK147.out 0; have hfz17_1 := blk_frozen BK147.out 1; have hfz17_2 := blk_frozen BK147.out 2; have hfz17_3 := blk_frozen BK147.out 3; have hfz17_4 := blk_frozen BK147.out 4) | ((with_reducible refine gate_callee (f := 61) rfl ?_); refine goesL_ (some 29) rfl rfl Try.func61 (by kernel_rfl) rfl #[.string ((rd_T32 l0 x5_2).f1)] rfl (by (try simp only [List.map_toArray, List.map_cons, List.map_nil]); first | done | rfl | (simp only [List.length_drop, List.length_take]; rfl)) ?_; (with_reducible refine (spandrelref18_Function.calls k2 ((rd_T32 l0 x5_2).f1) false _ A9.out).mono ?_); rintro e w' ⟨rfl, ⟨nd, rfl⟩⟩; refine ⟨_, rfl, ?_⟩))
                    go_ret
                    exact ⟨by first | rfl | (simp [errW_none, errW_some] <;> rfl) | (simp [*, errW_none, errW_some] <;> rfl), by repeat (first | (with_reducible first | exact HB.out | apply below_alloc | apply pw_below_drewN | apply below_drew1 | refine below_set ?_ GE147.out) | exact HB.out)⟩
                · rw [if_neg c8] at H
                  have c8b0 : (((rd_T32 l0 x5_2).f0) == 2) = false := beq_eq_false_iff_ne.mpr c8
                  have c8b1 : (((rd_T32 l0 x5_2).f0) != 2) = true := bne_iff_ne.mpr c8
                  have HC18 := Aside0.mk H
                  clear H
                  have p146 : 0 ≤ (x5_2 : Int) := of_decide_eq_true (by first | (with_reducible assumption) | assumption)
                  have q146 : x5_2 < (l0.length : Int) := of_decide_eq_true (by first | (with_reducible assumption) | assumption)
                  obtain ⟨ad146, A146_2, c146_2, A146_3, c146_3, A146_4, c146_4, e146, hx146_0, hx146_1, hx146_2, hx146_3, hx146_4, hl146_2, hi146_2, hl146_3, hi146_3, hl146_4, hi146_4⟩ := at_T32 HR0.out x5_2 p146 q146
                  cases e146
                  replace hx146_0 := (HB.out.cell (World.block_lt_of_cell? w _ hx146_0)).trans hx146_0
                  replace hx146_1 := (HB.out.cell (World.block_lt_of_cell? w _ hx146_1)).trans hx146_1
                  replace hx146_2 := (HB.out.cell (World.block_lt_of_cell? w _ hx146_2)).trans hx146_2
                  replace hx146_3 := (HB.out.cell (World.block_lt_of_cell? w _ hx146_3)).trans hx146_3
                  replace hx146_4 := (HB.out.cell (World.block_lt_of_cell? w _ hx146_4)).trans hx146_4
                  have HR146_2 := Aside0.mk hi146_2
                  have HC146_2 := Aside0.mk hl146_2
                  clear hi146_2 hl146_2
                  have HR146_3 := Aside0.mk hi146_3
                  have HC146_3 := Aside0.mk hl146_3
                  clear hi146_3 hl146_3
                  have HR146_4 := Aside0.mk hi146_4
                  have HC146_4 := Aside0.mk hl146_4
                  clear hi146_4 hl146_4
                  replace p146 := eq_true p146
                  replace q146 := eq_true q146
                  go_upto_region 10 with (first | ((with_reducible refine gate_dst (N := 6) rfl ?_); (try (refine gate_guard (by rfl) ?_; dsimp only)); refine box_event ?hg (N := 6) ?hd (cs := #[.int .i64 0, .string (⟨#[]⟩ : ByteArray), .slice none 0 0, .slice none 0 0, .slice none 0 0]) (t := 32) ?hr ?_; (case hd => rfl); (case hg => rfl); (case hr => first | (go_simp; done) | (go_simp; rfl)); intro gb147 hg w19 hbox hb; have n0_ := Aside0.mk (below_step (by repeat (first | (with_reducible first | exact HB.out | apply below_alloc | apply pw_below_drewN | apply below_drew1) | exact HB.out)) hb); have n1_ := Aside0.mk (hbox); have n2_ := Aside0.mk ((by rw [hg]; exact (below_size (by repeat (first | (with_reducible first | exact HB.out | apply below_alloc | apply pw_below_drewN | apply below_drew1) | exact HB.out))) : w.heap.size ≤ gb147)); have n3_ := Aside0.mk ((by rw [hg]; exact (below_size (by repeat (first | (with_reducible first | exact HB.out | apply below_alloc | apply pw_below_drewN | apply below_drew1) | exact HB.out))) : w.heap.size ≤ gb147)); clear HB; have HB := n0_; have BK147 := n1_; have GW147 := n2_; have GE147 := n3_; clear n0_ n1_ n2_ n3_; clear hb hbox hg; have hcz20_0 : w19.cell? ⟨gb147, 0, none⟩ = some (.int .i64 0) := (blk_cell BK147.out 0).trans rfl; have hcz20_1 : w19.cell? ⟨gb147, 1, none⟩ = some (.string (⟨#[]⟩ : ByteArray)) := (blk_cell BK147.out 1).trans rfl; have hcz20_2 : w19.cell? ⟨gb147, 2, none⟩ = some (.slice none 0 0) := (blk_cell BK147.out 2).trans rfl; have hcz20_3 : w19.cell? ⟨gb147, 3, none⟩ = some (.slice none 0 0) := (blk_cell BK147.out 3).trans rfl; have hcz20_4 : w19.cell? ⟨gb147, 4, none⟩ = some (.slice none 0 0) := (blk_cell BK147.out 4).trans rfl; have hfz20_0 := blk_frozen BK147.out 0; have hfz20_1 := blk_frozen BK147.out 1; have hfz20_2 := blk_frozen BK147.out 2; have hfz20_3 := blk_frozen BK147.out 3; have hfz20_4 := blk_frozen BK147.out 4))
                  (try simp only [Act.put, List.setIfInBounds_toArray, List.set_cons_zero, List.set_cons_succ])
                  go_cut [69] (fun v69 wc => ∃ (kq : Nat) (x69_17 : Bool), v69 = .bool x69_17 ∧ Aside0 (spandrelref18_body.j2 kq l0 a1 x5_2 x69_17 ((rd_T32 l0 x5_2).f0) ((rd_T32 l0 x5_2).f1) ((rd_T32 l0 x5_2).f2) ((rd_T32 l0 x5_2).f3) ((rd_T32 l0 x5_2).f4) = some r) ∧ Aside0 (kq ≤ k2) ∧ Aside0 (wc.heap[gb147]? = some (.cells #[.int .i64 ((rd_T32 l0 x5_2).f0), .string ((rd_T32 l0 x5_2).f1), (.slice A146_2 ((rd_T32 l0 x5_2).f2).length c146_2), (.slice A146_3 ((rd_T32 l0 x5_2).f3).length c146_3), (.slice A146_4 ((rd_T32 l0 x5_2).f4).length c146_4)] 32 (0, 0))) ∧ Aside0 (Below w.heap.size w wc))
                  case first =>
                    have H := HC18.out
                    clear HC18
                    by_cases c21 : ((rd_T32 l0 x5_2).f0) = 1
                    · rw [if_pos c21] at H
                      have c21b0 : (((rd_T32 l0 x5_2).f0) == 1) = true := beq_iff_eq.mpr c21
                      have c21b1 : (((rd_T32 l0 x5_2).f0) != 1) = false := bne_eq_false_iff_eq.mpr c21
                      clear c21
                      (first | rw [c21b0] | (simp only [i64_w, i32_w]; rw [c21b0]) | skip)
                      replace H := Option.bind_eq_some_iff.mp H
                      obtain ⟨t149, A220, H⟩ := H
                      replace H : (if t149 = true then ((spandrelref18_args.f k2 ((rd_T32 l0 x5_2).f2)).bind fun t150 => (spandrelref18_body.j2 k2 l0 a1 x5_2 (!t150) ((rd_T32 l0 x5_2).f0) ((rd_T32 l0 x5_2).f1) ((rd_T32 l0 x5_2).f2) ((rd_T32 l0 x5_2).f3) ((rd_T32 l0 x5_2).f4))) else (spandrelref18_body.j2 k2 l0 a1 x5_2 true ((rd_T32 l0 x5_2).f0) ((rd_T32 l0 x5_2).f1) ((rd_T32 l0 x5_2).f2) ((rd_T32 l0 x5_2).f3) ((rd_T32 l0 x5_2).f4))) = some r := H
                      have A22 := Aside0.mk A220
                      clear A220
                      by_cases c23 : t149 = true
                      · subst c23
                        have H1 : ((spandrelref18_args.f k2 ((rd_T32 l0 x5_2).f2)).bind fun t150 => (spandrelref18_body.j2 k2 l0 a1 x5_2 (!t150) ((rd_T32 l0 x5_2).f0) ((rd_T32 l0 x5_2).f1) ((rd_T32 l0 x5_2).f2) ((rd_T32 l0 x5_2).f3) ((rd_T32 l0 x5_2).f4))) = some r := by rw [if_pos rfl] at H; exact H
                        clear H
                        have H := H1
                        clear H1
                        replace H := Option.bind_eq_some_iff.mp H
                        obtain ⟨t150, A240, H⟩ := H
                        replace H : (spandrelref18_body.j2 k2 l0 a1 x5_2 (!t150) ((rd_T32 l0 x5_2).f0) ((rd_T32 l0 x5_2).f1) ((rd_T32 l0 x5_2).f2) ((rd_T32 l0 x5_2).f3) ((rd_T32 l0 x5_2).f4)) = some r := H
                        have A24 := Aside0.mk A240
                        clear A240
                        have H' := Aside0.mk H
                        clear H
                        have hcz25_0 : w19.cell? ⟨gb147, 0, none⟩ = some (.int .i64 0) := (blk_cell BK147.out 0).trans rfl
                        have hcz25_1 : w19.cell? ⟨gb147, 1, none⟩ = some (.string (⟨#[]⟩ : ByteArray)) := (blk_cell BK147.out 1).trans rfl
                        have hcz25_2 : w19.cell? ⟨gb147, 2, none⟩ = some (.slice none 0 0) := (blk_cell BK147.out 2).trans rfl
                        have hcz25_3 : w19.cell? ⟨gb147, 3, none⟩ = some (.slice none 0 0) := (blk_cell BK147.out 3).trans rfl
                        have hcz25_4 : w19.cell? ⟨gb147, 4, none⟩ = some (.slice none 0 0) := (blk_cell BK147.out 4).trans rfl
                        have hfz25_0 := blk_frozen BK147.out 0
                        have hfz25_1 := blk_frozen BK147.out 1
                        have hfz25_2 := blk_frozen BK147.out 2
                        have hfz25_3 := blk_frozen BK147.out 3
                        have hfz25_4 := blk_frozen BK147.out 4
                        go_wp2_with (first | (go_at_call 101; (with_reducible refine (spandrelref18_Method.calls k2 ((rd_T32 l0 x5_2).f1) true _ A22.out).mono ?_); rintro e w' ⟨rfl, ⟨nd, rfl⟩⟩) | (go_at_call 102; (with_reducible refine (spandrelref18_args.calls k2 _ _ ((rd_T32 l0 x5_2).f2) t150 _ ?side1 ?side2 A24.out).mono ?_); (case side1 => exact Kd.C_below HR146_2.out (by repeat (first | (with_reducible first | exact HB.out | apply below_alloc | apply pw_below_drewN | apply below_drew1 | refine below_set ?_ GE147.out) | exact HB.out))); (case side2 => exact HC146_2.out); rintro e w' ⟨rfl, ⟨nd, rfl⟩⟩))
                        go_meet
                        case rel => exact ⟨_, (!t150), (by first | rfl | (simp; done) | (simp [*]; done)), H', ⟨by have := HJ2.out; have := HK2.out; first | omega | exact Nat.le_refl _⟩, ⟨by (with_reducible repeat (first | refine blk_drewN ?_ _ | refine blk_drew ?_ | refine blk_alloc ?_ _)); refine blk_put (cs := #[.int .i64 ((rd_T32 l0 x5_2).f0), .string ((rd_T32 l0 x5_2).f1), .slice A146_2 ((rd_T32 l0 x5_2).f2).length c146_2, .slice A146_3 ((rd_T32 l0 x5_2).f3).length c146_3, .slice none 0 0]) ?_ 4 _ rfl; (with_reducible repeat (first | refine blk_drewN ?_ _ | refine blk_drew ?_ | refine blk_alloc ?_ _)); refine blk_put (cs := #[.int .i64 ((rd_T32 l0 x5_2).f0), .string ((rd_T32 l0 x5_2).f1), .slice A146_2 ((rd_T32 l0 x5_2).f2).length c146_2, .slice none 0 0, .slice none 0 0]) ?_ 3 _ rfl; (with_reducible repeat (first | refine blk_drewN ?_ _ | refine blk_drew ?_ | refine blk_alloc ?_ _)); refine blk_put (cs := #[.int .i64 ((rd_T32 l0 x5_2).f0), .string ((rd_T32 l0 x5_2).f1), .slice none 0 0, .slice none 0 0, .slice none 0 0]) ?_ 2 _ rfl; (with_reducible repeat (first | refine blk_drewN ?_ _ | refine blk_drew ?_ | refine blk_alloc ?_ _)); refine blk_put (cs := #[.int .i64 ((rd_T32 l0 x5_2).f0), .string (⟨#[]⟩ : ByteArray), .slice none 0 0, .slice none 0 0, .slice none 0 0]) ?_ 1 _ rfl; (with_reducible repeat (first | refine blk_drewN ?_ _ | refine blk_drew ?_ | refine blk_alloc ?_ _)); refine blk_put (cs := #[.int .i64 0, .string (⟨#[]⟩ : ByteArray), .slice none 0 0, .slice none 0 0, .slice none 0 0]) ?_ 0 _ rfl; (with_reducible repeat (first | refine blk_drewN ?_ _ | refine blk_drew ?_ | refine blk_alloc ?_ _)); exact BK147.out⟩, ⟨by repeat (first | (with_reducible first | exact HB.out | apply below_alloc | apply pw_below_drewN | apply below_drew1 | refine below_set ?_ GE147.out) | exact HB.out)⟩⟩
                      · replace c23 := Bool.eq_false_iff.mpr c23
                        subst c23
                        have H1 : (spandrelref18_body.j2 k2 l0 a1 x5_2 true ((rd_T32 l0 x5_2).f0) ((rd_T32 l0 x5_2).f1) ((rd_T32 l0 x5_2).f2) ((rd_T32 l0 x5_2).f3) ((rd_T32 l0 x5_2).f4)) = some r := by rw [if_neg (show ¬ (false = true) by decide)] at H; exact H
                        clear H
                        have H := H1
                        clear H1
                        have H' := Aside0.mk H
                        clear H
                        have hcz26_0 : w19.cell? ⟨gb147, 0, none⟩ = some (.int .i64 0) := (blk_cell BK147.out 0).trans rfl
                        have hcz26_1 : w19.cell? ⟨gb147, 1, none⟩ = some (.string (⟨#[]⟩ : ByteArray)) := (blk_cell BK147.out 1).trans rfl
                        have hcz26_2 : w19.cell? ⟨gb147, 2, none⟩ = some (.slice none 0 0) := (blk_cell BK147.out 2).trans rfl
                        have hcz26_3 : w19.cell? ⟨gb147, 3, none⟩ = some (.slice none 0 0) := (blk_cell BK147.out 3).trans rfl
                        have hcz26_4 : w19.cell? ⟨gb147, 4, none⟩ = some (.slice none 0 0) := (blk_cell BK147.out 4).trans rfl
                        have hfz26_0 := blk_frozen BK147.out 0
                        have hfz26_1 := blk_frozen BK147.out 1
                        have hfz26_2 := blk_frozen BK147.out 2
                        have hfz26_3 := blk_frozen BK147.out 3
                        have hfz26_4 := blk_frozen BK147.out 4
                        go_wp2_with (first | (go_at_call 101; (with_reducible refine (spandrelref18_Method.calls k2 ((rd_T32 l0 x5_2).f1) false _ A22.out).mono ?_); rintro e w' ⟨rfl, ⟨nd, rfl⟩⟩))
                        go_meet
                        case rel => exact ⟨_, (true), (by first | rfl | (simp; done) | (simp [*]; done)), H', ⟨by have := HJ2.out; have := HK2.out; first | omega | exact Nat.le_refl _⟩, ⟨by (with_reducible repeat (first | refine blk_drewN ?_ _ | refine blk_drew ?_ | refine blk_alloc ?_ _)); refine blk_put (cs := #[.int .i64 ((rd_T32 l0 x5_2).f0), .string ((rd_T32 l0 x5_2).f1), .slice A146_2 ((rd_T32 l0 x5_2).f2).length c146_2, .slice A146_3 ((rd_T32 l0 x5_2).f3).length c146_3, .slice none 0 0]) ?_ 4 _ rfl; (with_reducible repeat (first | refine blk_drewN ?_ _ | refine blk_drew ?_ | refine blk_alloc ?_ _)); refine blk_put (cs := #[.int .i64 ((rd_T32 l0 x5_2).f0), .string ((rd_T32 l0 x5_2).f1), .slice A146_2 ((rd_T32 l0 x5_2).f2).length c146_2, .slice none 0 0, .slice none 0 0]) ?_ 3 _ rfl; (with_reducible repeat (first | refine blk_drewN ?_ _ | refine blk_drew ?_ | refine blk_alloc ?_ _)); refine blk_put (cs := #[.int .i64 ((rd_T32 l0 x5_2).f0), .string ((rd_T32 l0 x5_2).f1), .slice none 0 0, .slice none 0 0, .slice none 0 0]) ?_ 2 _ rfl; (with_reducible repeat (first | refine blk_drewN ?_ _ | refine blk_drew ?_ | refine blk_alloc ?_ _)); refine blk_put (cs := #[.int .i64 ((rd_T32 l0 x5_2).f0), .string (⟨#[]⟩ : ByteArray), .slice none 0 0, .slice none 0 0, .slice none 0 0]) ?_ 1 _ rfl; (with_reducible repeat (first | refine blk_drewN ?_ _ | refine blk_drew ?_ | refine blk_alloc ?_ _)); refine blk_put (cs := #[.int .i64 0, .string (⟨#[]⟩ : ByteArray), .slice none 0 0, .slice none 0 0, .slice none 0 0]) ?_ 0 _ rfl; (with_reducible repeat (first | refine blk_drewN ?_ _ | refine blk_drew ?_ | refine blk_alloc ?_ _)); exact BK147.out⟩, ⟨by repeat (first | (with_reducible first | exact HB.out | apply below_alloc | apply pw_below_drewN | apply below_drew1 | refine below_set ?_ GE147.out) | exact HB.out)⟩⟩
                    · rw [if_neg c21] at H
                      have c21b0 : (((rd_T32 l0 x5_2).f0) == 1) = false := beq_eq_false_iff_ne.mpr c21
                      have c21b1 : (((rd_T32 l0 x5_2).f0) != 1) = true := bne_iff_ne.mpr c21
                      (first | rw [c21b0] | (simp only [i64_w, i32_w]; rw [c21b0]) | skip)
                      by_cases c27 : ((rd_T32 l0 x5_2).f0) = 3
                      · rw [if_pos c27] at H
                        have c27b0 : (((rd_T32 l0 x5_2).f0) == 3) = true := beq_iff_eq.mpr c27
                        have c27b1 : (((rd_T32 l0 x5_2).f0) != 3) = false := bne_eq_false_iff_eq.mpr c27
                        clear c27
                        replace H := Option.bind_eq_some_iff.mp H
                        obtain ⟨t151, A280, H⟩ := H
                        replace H : (if t151 = true then ((spandrelref18_args.f k2 ((rd_T32 l0 x5_2).f2)).bind fun t152 => (spandrelref18_body.j2 k2 l0 a1 x5_2 (!t152) ((rd_T32 l0 x5_2).f0) ((rd_T32 l0 x5_2).f1) ((rd_T32 l0 x5_2).f2) ((rd_T32 l0 x5_2).f3) ((rd_T32 l0 x5_2).f4))) else (spandrelref18_body.j2 k2 l0 a1 x5_2 true ((rd_T32 l0 x5_2).f0) ((rd_T32 l0 x5_2).f1) ((rd_T32 l0 x5_2).f2) ((rd_T32 l0 x5_2).f3) ((rd_T32 l0 x5_2).f4))) = some r := H
                        have A28 := Aside0.mk A280
                        clear A280
                        by_cases c29 : t151 = true
                        · subst c29
                          have H1 : ((spandrelref18_args.f k2 ((rd_T32 l0 x5_2).f2)).bind fun t152 => (spandrelref18_body.j2 k2 l0 a1 x5_2 (!t152) ((rd_T32 l0 x5_2).f0) ((rd_T32 l0 x5_2).f1) ((rd_T32 l0 x5_2).f2) ((rd_T32 l0 x5_2).f3) ((rd_T32 l0 x5_2).f4))) = some r := by rw [if_pos rfl] at H; exact H
                          clear H
                          have H := H1
                          clear H1
                          replace H := Option.bind_eq_some_iff.mp H
                          obtain ⟨t152, A300, H⟩ := H
                          replace H : (spandrelref18_body.j2 k2 l0 a1 x5_2 (!t152) ((rd_T32 l0 x5_2).f0) ((rd_T32 l0 x5_2).f1) ((rd_T32 l0 x5_2).f2) ((rd_T32 l0 x5_2).f3) ((rd_T32 l0 x5_2).f4)) = some r := H
                          have A30 := Aside0.mk A300
                          clear A300
                          have H' := Aside0.mk H
                          clear H
                          have hcz31_0 : w19.cell? ⟨gb147, 0, none⟩ = some (.int .i64 0) := (blk_cell BK147.out 0).trans rfl
                          have hcz31_1 : w19.cell? ⟨gb147, 1, none⟩ = some (.string (⟨#[]⟩ : ByteArray)) := (blk_cell BK147.out 1).trans rfl
                          have hcz31_2 : w19.cell? ⟨gb147, 2, none⟩ = some (.slice none 0 0) := (blk_cell BK147.out 2).trans rfl
                          have hcz31_3 : w19.cell? ⟨gb147, 3, none⟩ = some (.slice none 0 0) := (blk_cell BK147.out 3).trans rfl
                          have hcz31_4 : w19.cell? ⟨gb147, 4, none⟩ = some (.slice none 0 0) := (blk_cell BK147.out 4).trans rfl
                          have hfz31_0 := blk_frozen BK147.out 0
                          have hfz31_1 := blk_frozen BK147.out 1
                          have hfz31_2 := blk_frozen BK147.out 2
                          have hfz31_3 := blk_frozen BK147.out 3
                          have hfz31_4 := blk_frozen BK147.out 4
                          go_wp2_with (first | (go_at_call 101; (with_reducible refine (spandrelref18_Method.calls k2 ((rd_T32 l0 x5_2).f1) true _ A28.out).mono ?_); rintro e w' ⟨rfl, ⟨nd, rfl⟩⟩) | (go_at_call 102; (with_reducible refine (spandrelref18_args.calls k2 _ _ ((rd_T32 l0 x5_2).f2) t152 _ ?side1 ?side2 A30.out).mono ?_); (case side1 => exact Kd.C_below HR146_2.out (by repeat (first | (with_reducible first | exact HB.out | apply below_alloc | apply pw_below_drewN | apply below_drew1 | refine below_set ?_ GE147.out) | exact HB.out))); (case side2 => exact HC146_2.out); rintro e w' ⟨rfl, ⟨nd, rfl⟩⟩))
                          go_meet
                          case rel => exact ⟨_, (!t152), (by first | rfl | (simp; done) | (simp [*]; done)), H', ⟨by have := HJ2.out; have := HK2.out; first | omega | exact Nat.le_refl _⟩, ⟨by (with_reducible repeat (first | refine blk_drewN ?_ _ | refine blk_drew ?_ | refine blk_alloc ?_ _)); refine blk_put (cs := #[.int .i64 ((rd_T32 l0 x5_2).f0), .string ((rd_T32 l0 x5_2).f1), .slice A146_2 ((rd_T32 l0 x5_2).f2).length c146_2, .slice A146_3 ((rd_T32 l0 x5_2).f3).length c146_3, .slice none 0 0]) ?_ 4 _ rfl; (with_reducible repeat (first | refine blk_drewN ?_ _ | refine blk_drew ?_ | refine blk_alloc ?_ _)); refine blk_put (cs := #[.int .i64 ((rd_T32 l0 x5_2).f0), .string ((rd_T32 l0 x5_2).f1), .slice A146_2 ((rd_T32 l0 x5_2).f2).length c146_2, .slice none 0 0, .slice none 0 0]) ?_ 3 _ rfl; (with_reducible repeat (first | refine blk_drewN ?_ _ | refine blk_drew ?_ | refine blk_alloc ?_ _)); refine blk_put (cs := #[.int .i64 ((rd_T32 l0 x5_2).f0), .string ((rd_T32 l0 x5_2).f1), .slice none 0 0, .slice none 0 0, .slice none 0 0]) ?_ 2 _ rfl; (with_reducible repeat (first | refine blk_drewN ?_ _ | refine blk_drew ?_ | refine blk_alloc ?_ _)); refine blk_put (cs := #[.int .i64 ((rd_T32 l0 x5_2).f0), .string (⟨#[]⟩ : ByteArray), .slice none 0 0, .slice none 0 0, .slice none 0 0]) ?_ 1 _ rfl; (with_reducible repeat (first | refine blk_drewN ?_ _ | refine blk_drew ?_ | refine blk_alloc ?_ _)); refine blk_put (cs := #[.int .i64 0, .string (⟨#[]⟩ : ByteArray), .slice none 0 0, .slice none 0 0, .slice none 0 0]) ?_ 0 _ rfl; (with_reducible repeat (first | refine blk_drewN ?_ _ | refine blk_drew ?_ | refine blk_alloc ?_ _)); exact BK147.out⟩, ⟨by repeat (first | (with_reducible first | exact HB.out | apply below_alloc | apply pw_below_drewN | apply below_drew1 | refine below_set ?_ GE147.out) | exact HB.out)⟩⟩
                        · replace c29 := Bool.eq_false_iff.mpr c29
                          subst c29
                          have H1 : (spandrelref18_body.j2 k2 l0 a1 x5_2 true ((rd_T32 l0 x5_2).f0) ((rd_T32 l0 x5_2).f1) ((rd_T32 l0 x5_2).f2) ((rd_T32 l0 x5_2).f3) ((rd_T32 l0 x5_2).f4)) = some r := by rw [if_neg (show ¬ (false = true) by decide)] at H; exact H
                          clear H
                          have H := H1
                          clear H1
                          have H' := Aside0.mk H
                          clear H
                          have hcz32_0 : w19.cell? ⟨gb147, 0, none⟩ = some (.int .i64 0) := (blk_cell BK147.out 0).trans rfl
                          have hcz32_1 : w19.cell? ⟨gb147, 1, none⟩ = some (.string (⟨#[]⟩ : ByteArray)) := (blk_cell BK147.out 1).trans rfl
                          have hcz32_2 : w19.cell? ⟨gb147, 2, none⟩ = some (.slice none 0 0) := (blk_cell BK147.out 2).trans rfl
                          have hcz32_3 : w19.cell? ⟨gb147, 3, none⟩ = some (.slice none 0 0) := (blk_cell BK147.out 3).trans rfl
                          have hcz32_4 : w19.cell? ⟨gb147, 4, none⟩ = some (.slice none 0 0) := (blk_cell BK147.out 4).trans rfl
                          have hfz32_0 := blk_frozen BK147.out 0
                          have hfz32_1 := blk_frozen BK147.out 1
                          have hfz32_2 := blk_frozen BK147.out 2
                          have hfz32_3 := blk_frozen BK147.out 3
                          have hfz32_4 := blk_frozen BK147.out 4
                          go_wp2_with (first | (go_at_call 101; (with_reducible refine (spandrelref18_Method.calls k2 ((rd_T32 l0 x5_2).f1) false _ A28.out).mono ?_); rintro e w' ⟨rfl, ⟨nd, rfl⟩⟩))
                          go_meet
                          case rel => exact ⟨_, (true), (by first | rfl | (simp; done) | (simp [*]; done)), H', ⟨by have := HJ2.out; have := HK2.out; first | omega | exact Nat.le_refl _⟩, ⟨by (with_reducible repeat (first | refine blk_drewN ?_ _ | refine blk_drew ?_ | refine blk_alloc ?_ _)); refine blk_put (cs := #[.int .i64 ((rd_T32 l0 x5_2).f0), .string ((rd_T32 l0 x5_2).f1), .slice A146_2 ((rd_T32 l0 x5_2).f2).length c146_2, .slice A146_3 ((rd_T32 l0 x5_2).f3).length c146_3, .slice none 0 0]) ?_ 4 _ rfl; (with_reducible repeat (first | refine blk_drewN ?_ _ | refine blk_drew ?_ | refine blk_alloc ?_ _)); refine blk_put (cs := #[.int .i64 ((rd_T32 l0 x5_2).f0), .string ((rd_T32 l0 x5_2).f1), .slice A146_2 ((rd_T32 l0 x5_2).f2).length c146_2, .slice none 0 0, .slice none 0 0]) ?_ 3 _ rfl; (with_reducible repeat (first | refine blk_drewN ?_ _ | refine blk_drew ?_ | refine blk_alloc ?_ _)); refine blk_put (cs := #[.int .i64 ((rd_T32 l0 x5_2).f0), .string ((rd_T32 l0 x5_2).f1), .slice none 0 0, .slice none 0 0, .slice none 0 0]) ?_ 2 _ rfl; (with_reducible repeat (first | refine blk_drewN ?_ _ | refine blk_drew ?_ | refine blk_alloc ?_ _)); refine blk_put (cs := #[.int .i64 ((rd_T32 l0 x5_2).f0), .string (⟨#[]⟩ : ByteArray), .slice none 0 0, .slice none 0 0, .slice none 0 0]) ?_ 1 _ rfl; (with_reducible repeat (first | refine blk_drewN ?_ _ | refine blk_drew ?_ | refine blk_alloc ?_ _)); refine blk_put (cs := #[.int .i64 0, .string (⟨#[]⟩ : ByteArray), .slice none 0 0, .slice none 0 0, .slice none 0 0]) ?_ 0 _ rfl; (with_reducible repeat (first | refine blk_drewN ?_ _ | refine blk_drew ?_ | refine blk_alloc ?_ _)); exact BK147.out⟩, ⟨by repeat (first | (with_reducible first | exact HB.out | apply below_alloc | apply pw_below_drewN | apply below_drew1 | refine below_set ?_ GE147.out) | exact HB.out)⟩⟩
                      · rw [if_neg c27] at H
                        have c27b0 : (((rd_T32 l0 x5_2).f0) == 3) = false := beq_eq_false_iff_ne.mpr c27
                        have c27b1 : (((rd_T32 l0 x5_2).f0) != 3) = true := bne_iff_ne.mpr c27
                        by_cases c33 : ((rd_T32 l0 x5_2).f0) = 4
                        · rw [if_pos c33] at H
                          have c33b0 : (((rd_T32 l0 x5_2).f0) == 4) = true := beq_iff_eq.mpr c33
                          have c33b1 : (((rd_T32 l0 x5_2).f0) != 4) = false := bne_eq_false_iff_eq.mpr c33
                          clear c33
                          replace H := Option.bind_eq_some_iff.mp H
                          obtain ⟨t153, A340, H⟩ := H
                          replace H : (if t153 = true then ((spandrelref18_args.f k2 ((rd_T32 l0 x5_2).f2)).bind fun t154 => (spandrelref18_body.j2 k2 l0 a1 x5_2 (!t154) ((rd_T32 l0 x5_2).f0) ((rd_T32 l0 x5_2).f1) ((rd_T32 l0 x5_2).f2) ((rd_T32 l0 x5_2).f3) ((rd_T32 l0 x5_2).f4))) else (spandrelref18_body.j2 k2 l0 a1 x5_2 true ((rd_T32 l0 x5_2).f0) ((rd_T32 l0 x5_2).f1) ((rd_T32 l0 x5_2).f2) ((rd_T32 l0 x5_2).f3) ((rd_T32 l0 x5_2).f4))) = some r := H
                          have A34 := Aside0.mk A340
                          clear A340
                          by_cases c35 : t153 = true
                          · subst c35
                            have H1 : ((spandrelref18_args.f k2 ((rd_T32 l0 x5_2).f2)).bind fun t154 => (spandrelref18_body.j2 k2 l0 a1 x5_2 (!t154) ((rd_T32 l0 x5_2).f0) ((rd_T32 l0 x5_2).f1) ((rd_T32 l0 x5_2).f2) ((rd_T32 l0 x5_2).f3) ((rd_T32 l0 x5_2).f4))) = some r := by rw [if_pos rfl] at H; exact H
                            clear H
                            have H := H1
                            clear H1
                            replace H := Option.bind_eq_some_iff.mp H
                            obtain ⟨t154, A360, H⟩ := H
                            replace H : (spandrelref18_body.j2 k2 l0 a1 x5_2 (!t154) ((rd_T32 l0 x5_2).f0) ((rd_T32 l0 x5_2).f1) ((rd_T32 l0 x5_2).f2) ((rd_T32 l0 x5_2).f3) ((rd_T32 l0 x5_2).f4)) = some r := H
                            have A36 := Aside0.mk A360
                            clear A360
                            have H' := Aside0.mk H
                            clear H
                            have hcz37_0 : w19.cell? ⟨gb147, 0, none⟩ = some (.int .i64 0) := (blk_cell BK147.out 0).trans rfl
                            have hcz37_1 : w19.cell? ⟨gb147, 1, none⟩ = some (.string (⟨#[]⟩ : ByteArray)) := (blk_cell BK147.out 1).trans rfl
                            have hcz37_2 : w19.cell? ⟨gb147, 2, none⟩ = some (.slice none 0 0) := (blk_cell BK147.out 2).trans rfl
                            have hcz37_3 : w19.cell? ⟨gb147, 3, none⟩ = some (.slice none 0 0) := (blk_cell BK147.out 3).trans rfl
                            have hcz37_4 : w19.cell? ⟨gb147, 4, none⟩ = some (.slice none 0 0) := (blk_cell BK147.out 4).trans rfl
                            have hfz37_0 := blk_frozen BK147.out 0
                            have hfz37_1 := blk_frozen BK147.out 1
                            have hfz37_2 := blk_frozen BK147.out 2
                            have hfz37_3 := blk_frozen BK147.out 3
                            have hfz37_4 := blk_frozen BK147.out 4
                            go_wp2_with (first | (go_at_call 101; (with_reducible refine (spandrelref18_Method.calls k2 ((rd_T32 l0 x5_2).f1) true _ A34.out).mono ?_); rintro e w' ⟨rfl, ⟨nd, rfl⟩⟩) | (go_at_call 102; (with_reducible refine (spandrelref18_args.calls k2 _ _ ((rd_T32 l0 x5_2).f2) t154 _ ?side1 ?side2 A36.out).mono ?_); (case side1 => exact Kd.C_below HR146_2.out (by repeat (first | (with_reducible first | exact HB.out | apply below_alloc | apply pw_below_drewN | apply below_drew1 | refine below_set ?_ GE147.out) | exact HB.out))); (case side2 => exact HC146_2.out); rintro e w' ⟨rfl, ⟨nd, rfl⟩⟩))
                            go_meet
                            case rel => exact ⟨_, (!t154), (by first | rfl | (simp; done) | (simp [*]; done)), H', ⟨by have := HJ2.out; have := HK2.out; first | omega | exact Nat.le_refl _⟩, ⟨by (with_reducible repeat (first | refine blk_drewN ?_ _ | refine blk_drew ?_ | refine blk_alloc ?_ _)); refine blk_put (cs := #[.int .i64 ((rd_T32 l0 x5_2).f0), .string ((rd_T32 l0 x5_2).f1), .slice A146_2 ((rd_T32 l0 x5_2).f2).length c146_2, .slice A146_3 ((rd_T32 l0 x5_2).f3).length c146_3, .slice none 0 0]) ?_ 4 _ rfl; (with_reducible repeat (first | refine blk_drewN ?_ _ | refine blk_drew ?_ | refine blk_alloc ?_ _)); refine blk_put (cs := #[.int .i64 ((rd_T32 l0 x5_2).f0), .string ((rd_T32 l0 x5_2).f1), .slice A146_2 ((rd_T32 l0 x5_2).f2).length c146_2, .slice none 0 0, .slice none 0 0]) ?_ 3 _ rfl; (with_reducible repeat (first | refine blk_drewN ?_ _ | refine blk_drew ?_ | refine blk_alloc ?_ _)); refine blk_put (cs := #[.int .i64 ((rd_T32 l0 x5_2).f0), .string ((rd_T32 l0 x5_2).f1), .slice none 0 0, .slice none 0 0, .slice none 0 0]) ?_ 2 _ rfl; (with_reducible repeat (first | refine blk_drewN ?_ _ | refine blk_drew ?_ | refine blk_alloc ?_ _)); refine blk_put (cs := #[.int .i64 ((rd_T32 l0 x5_2).f0), .string (⟨#[]⟩ : ByteArray), .slice none 0 0, .slice none 0 0, .slice none 0 0]) ?_ 1 _ rfl; (with_reducible repeat (first | refine blk_drewN ?_ _ | refine blk_drew ?_ | refine blk_alloc ?_ _)); refine blk_put (cs := #[.int .i64 0, .string (⟨#[]⟩ : ByteArray), .slice none 0 0, .slice none 0 0, .slice none 0 0]) ?_ 0 _ rfl; (with_reducible repeat (first | refine blk_drewN ?_ _ | refine blk_drew ?_ | refine blk_alloc ?_ _)); exact BK147.out⟩, ⟨by repeat (first | (with_reducible first | exact HB.out | apply below_alloc | apply pw_below_drewN | apply below_drew1 | refine below_set ?_ GE147.out) | exact HB.out)⟩⟩
                          · replace c35 := Bool.eq_false_iff.mpr c35
                            subst c35
                            have H1 : (spandrelref18_body.j2 k2 l0 a1 x5_2 true ((rd_T32 l0 x5_2).f0) ((rd_T32 l0 x5_2).f1) ((rd_T32 l0 x5_2).f2) ((rd_T32 l0 x5_2).f3) ((rd_T32 l0 x5_2).f4)) = some r := by rw [if_neg (show ¬ (false = true) by decide)] at H; exact H
                            clear H
                            have H := H1
                            clear H1
                            have H' := Aside0.mk H
                            clear H
                            have hcz38_0 : w19.cell? ⟨gb147, 0, none⟩ = some (.int .i64 0) := (blk_cell BK147.out 0).trans rfl
                            have hcz38_1 : w19.cell? ⟨gb147, 1, none⟩ = some (.string (⟨#[]⟩ : ByteArray)) := (blk_cell BK147.out 1).trans rfl
                            have hcz38_2 : w19.cell? ⟨gb147, 2, none⟩ = some (.slice none 0 0) := (blk_cell BK147.out 2).trans rfl
                            have hcz38_3 : w19.cell? ⟨gb147, 3, none⟩ = some (.slice none 0 0) := (blk_cell BK147.out 3).trans rfl
                            have hcz38_4 : w19.cell? ⟨gb147, 4, none⟩ = some (.slice none 0 0) := (blk_cell BK147.out 4).trans rfl
                            have hfz38_0 := blk_frozen BK147.out 0
                            have hfz38_1 := blk_frozen BK147.out 1
                            have hfz38_2 := blk_frozen BK147.out 2
                            have hfz38_3 := blk_frozen BK147.out 3
                            have hfz38_4 := blk_frozen BK147.out 4
                            go_wp2_with (first | (go_at_call 101; (with_reducible refine (spandrelref18_Method.calls k2 ((rd_T32 l0 x5_2).f1) false _ A34.out).mono ?_); rintro e w' ⟨rfl, ⟨nd, rfl⟩⟩))
                            go_meet
                            case rel => exact ⟨_, (true), (by first | rfl | (simp; done) | (simp [*]; done)), H', ⟨by have := HJ2.out; have := HK2.out; first | omega | exact Nat.le_refl _⟩, ⟨by (with_reducible repeat (first | refine blk_drewN ?_ _ | refine blk_drew ?_ | refine blk_alloc ?_ _)); refine blk_put (cs := #[.int .i64 ((rd_T32 l0 x5_2).f0), .string ((rd_T32 l0 x5_2).f1), .slice A146_2 ((rd_T32 l0 x5_2).f2).length c146_2, .slice A146_3 ((rd_T32 l0 x5_2).f3).length c146_3, .slice none 0 0]) ?_ 4 _ rfl; (with_reducible repeat (first | refine blk_drewN ?_ _ | refine blk_drew ?_ | refine blk_alloc ?_ _)); refine blk_put (cs := #[.int .i64 ((rd_T32 l0 x5_2).f0), .string ((rd_T32 l0 x5_2).f1), .slice A146_2 ((rd_T32 l0 x5_2).f2).length c146_2, .slice none 0 0, .slice none 0 0]) ?_ 3 _ rfl; (with_reducible repeat (first | refine blk_drewN ?_ _ | refine blk_drew ?_ | refine blk_alloc ?_ _)); refine blk_put (cs := #[.int .i64 ((rd_T32 l0 x5_2).f0), .string ((rd_T32 l0 x5_2).f1), .slice none 0 0, .slice none 0 0, .slice none 0 0]) ?_ 2 _ rfl; (with_reducible repeat (first | refine blk_drewN ?_ _ | refine blk_drew ?_ | refine blk_alloc ?_ _)); refine blk_put (cs := #[.int .i64 ((rd_T32 l0 x5_2).f0), .string (⟨#[]⟩ : ByteArray), .slice none 0 0, .slice none 0 0, .slice none 0 0]) ?_ 1 _ rfl; (with_reducible repeat (first | refine blk_drewN ?_ _ | refine blk_drew ?_ | refine blk_alloc ?_ _)); refine blk_put (cs := #[.int .i64 0, .string (⟨#[]⟩ : ByteArray), .slice none 0 0, .slice none 0 0, .slice none 0 0]) ?_ 0 _ rfl; (with_reducible repeat (first | refine blk_drewN ?_ _ | refine blk_drew ?_ | refine blk_alloc ?_ _)); exact BK147.out⟩, ⟨by repeat (first | (with_reducible first | exact HB.out | apply below_alloc | apply pw_below_drewN | apply below_drew1 | refine below_set ?_ GE147.out) | exact HB.out)⟩⟩
                        · rw [if_neg c33] at H
                          have c33b0 : (((rd_T32 l0 x5_2).f0) == 4) = false := beq_eq_false_iff_ne.mpr c33
                          have c33b1 : (((rd_T32 l0 x5_2).f0) != 4) = true := bne_iff_ne.mpr c33
                          have H' := Aside0.mk H
                          clear H
                          have hcz39_0 : w19.cell? ⟨gb147, 0, none⟩ = some (.int .i64 0) := (blk_cell BK147.out 0).trans rfl
                          have hcz39_1 : w19.cell? ⟨gb147, 1, none⟩ = some (.string (⟨#[]⟩ : ByteArray)) := (blk_cell BK147.out 1).trans rfl
                          have hcz39_2 : w19.cell? ⟨gb147, 2, none⟩ = some (.slice none 0 0) := (blk_cell BK147.out 2).trans rfl
                          have hcz39_3 : w19.cell? ⟨gb147, 3, none⟩ = some (.slice none 0 0) := (blk_cell BK147.out 3).trans rfl
                          have hcz39_4 : w19.cell? ⟨gb147, 4, none⟩ = some (.slice none 0 0) := (blk_cell BK147.out 4).trans rfl
                          have hfz39_0 := blk_frozen BK147.out 0
                          have hfz39_1 := blk_frozen BK147.out 1
                          have hfz39_2 := blk_frozen BK147.out 2
                          have hfz39_3 := blk_frozen BK147.out 3
                          have hfz39_4 := blk_frozen BK147.out 4
                          go_wp2
                          go_meet
                          case rel => exact ⟨_, (true), (by first | rfl | (simp; done) | (simp [*]; done)), H', ⟨by have := HJ2.out; have := HK2.out; first | omega | exact Nat.le_refl _⟩, ⟨by (with_reducible repeat (first | refine blk_drewN ?_ _ | refine blk_drew ?_ | refine blk_alloc ?_ _)); refine blk_put (cs := #[.int .i64 ((rd_T32 l0 x5_2).f0), .string ((rd_T32 l0 x5_2).f1), .slice A146_2 ((rd_T32 l0 x5_2).f2).length c146_2, .slice A146_3 ((rd_T32 l0 x5_2).f3).length c146_3, .slice none 0 0]) ?_ 4 _ rfl; (with_reducible repeat (first | refine blk_drewN ?_ _ | refine blk_drew ?_ | refine blk_alloc ?_ _)); refine blk_put (cs := #[.int .i64 ((rd_T32 l0 x5_2).f0), .string ((rd_T32 l0 x5_2).f1), .slice A146_2 ((rd_T32 l0 x5_2).f2).length c146_2, .slice none 0 0, .slice none 0 0]) ?_ 3 _ rfl; (with_reducible repeat (first | refine blk_drewN ?_ _ | refine blk_drew ?_ | refine blk_alloc ?_ _)); refine blk_put (cs := #[.int .i64 ((rd_T32 l0 x5_2).f0), .string ((rd_T32 l0 x5_2).f1), .slice none 0 0, .slice none 0 0, .slice none 0 0]) ?_ 2 _ rfl; (with_reducible repeat (first | refine blk_drewN ?_ _ | refine blk_drew ?_ | refine blk_alloc ?_ _)); refine blk_put (cs := #[.int .i64 ((rd_T32 l0 x5_2).f0), .string (⟨#[]⟩ : ByteArray), .slice none 0 0, .slice none 0 0, .slice none 0 0]) ?_ 1 _ rfl; (with_reducible repeat (first | refine blk_drewN ?_ _ | refine blk_drew ?_ | refine blk_alloc ?_ _)); refine blk_put (cs := #[.int .i64 0, .string (⟨#[]⟩ : ByteArray), .slice none 0 0, .slice none 0 0, .slice none 0 0]) ?_ 0 _ rfl; (with_reducible repeat (first | refine blk_drewN ?_ _ | refine blk_drew ?_ | refine blk_alloc ?_ _)); exact BK147.out⟩, ⟨by repeat (first | (with_reducible first | exact HB.out | apply below_alloc | apply pw_below_drewN | apply below_drew1 | refine below_set ?_ GE147.out) | exact HB.out)⟩⟩
                  case rest =>
                    clear HC18
                    try clear c1
                    try clear p1
                    try clear q1
                    try clear hx1
                    try clear c2
                    try clear p2
                    try clear c3
                    try clear c4
                    try clear c4b0
                    try clear c4b1
                    try clear c5
                    try clear c6
                    try clear c6b0
                    try clear p6
                    try clear c7
                    try clear c7b0
                    try clear c8
                    try clear c8b0
                    try clear c8b1
                    try clear c10
                    try clear c11
                    try clear c11b0
                    try clear c14
                    try clear p14
                    try clear q14
                    try clear hx14
                    try clear c21
                    try clear c21b0
                    try clear c21b1
                    try clear c23
                    try clear c27
                    try clear c27b0
                    try clear c27b1
                    try clear c29
                    try clear c33
                    try clear c33b0
                    try clear c33b1
                    try clear c35
                    try clear hcz13_0
                    try clear hcz13_1
                    try clear hcz13_2
                    try clear hcz13_3
                    try clear hcz13_4
                    try clear hcz15_0
                    try clear hcz15_1
                    try clear hcz15_2
                    try clear hcz15_3
                    try clear hcz15_4
                    try clear hcz17_0
                    try clear hcz17_1
                    try clear hcz17_2
                    try clear hcz17_3
                    try clear hcz17_4
                    try clear hcz20_0
                    try clear hcz20_1
                    try clear hcz20_2
                    try clear hcz20_3
                    try clear hcz20_4
                    try clear hcz25_0
                    try clear hcz25_1
                    try clear hcz25_2
                    try clear hcz25_3
                    try clear hcz25_4
                    try clear hcz26_0
                    try clear hcz26_1
                    try clear hcz26_2
                    try clear hcz26_3
                    try clear hcz26_4
                    try clear hcz31_0
                    try clear hcz31_1
                    try clear hcz31_2
                    try clear hcz31_3
                    try clear hcz31_4
                    try clear hcz32_0
                    try clear hcz32_1
                    try clear hcz32_2
                    try clear hcz32_3
                    try clear hcz32_4
                    try clear hcz37_0
                    try clear hcz37_1
                    try clear hcz37_2
                    try clear hcz37_3
                    try clear hcz37_4
                    try clear hcz38_0
                    try clear hcz38_1
                    try clear hcz38_2
                    try clear hcz38_3
                    try clear hcz38_4
                    try clear hcz39_0
                    try clear hcz39_1
                    try clear hcz39_2
                    try clear hcz39_3
                    try clear hcz39_4
                    try clear hfz13_0
                    try clear hfz13_1
                    try clear hfz13_2
                    try clear hfz13_3
                    try clear hfz13_4
                    try clear hfz15_0
                    try clear hfz15_1
                    try clear hfz15_2
                    try clear hfz15_3
                    try clear hfz15_4
                    try clear hfz17_0
                    try clear hfz17_1
                    try clear hfz17_2
                    try clear hfz17_3
                    try clear hfz17_4
                    try clear hfz20_0
                    try clear hfz20_1
                    try clear hfz20_2
                    try clear hfz20_3
                    try clear hfz20_4
                    try clear hfz25_0
                    try clear hfz25_1
                    try clear hfz25_2
                    try clear hfz25_3
                    try clear hfz25_4
                    try clear hfz26_0
                    try clear hfz26_1
                    try clear hfz26_2
                    try clear hfz26_3
                    try clear hfz26_4
                    try clear hfz31_0
                    try clear hfz31_1
                    try clear hfz31_2
                    try clear hfz31_3
                    try clear hfz31_4
                    try clear hfz32_0
                    try clear hfz32_1
                    try clear hfz32_2
                    try clear hfz32_3
                    try clear hfz32_4
                    try clear hfz37_0
                    try clear hfz37_1
                    try clear hfz37_2
                    try clear hfz37_3
                    try clear hfz37_4
                    try clear hfz38_0
                    try clear hfz38_1
                    try clear hfz38_2
                    try clear hfz38_3
                    try clear hfz38_4
                    try clear hfz39_0
                    try clear hfz39_1
                    try clear hfz39_2
                    try clear hfz39_3
                    try clear hfz39_4
                    try clear hx146_0
                    try clear hx146_1
                    try clear hx146_2
                    try clear hx146_3
                    try clear hx146_4
                    try clear p146
                    try clear p2
                    try clear q146
                    obtain ⟨kq, x69_17, rfl, HA, HJ17, BK147, HB⟩ := hcut
                    cases kq with
                    | zero => exact absurd HA.out (by simp [spandrelref18_body.j2])
                    | succ kj17 =>
                      have H := HA.out
                      clear HA
                      simp only [spandrelref18_body.j2] at H
                      by_cases c40 : x69_17 = true
                      · subst c40
                        have H1 : (some false) = some r := by rw [if_pos rfl] at H; exact H
                        clear H
                        have H := H1
                        clear H1
                        obtain rfl := Option.some.inj H
                        go_wp2
                        go_ret
                        exact ⟨by first | rfl | (simp [errW_none, errW_some] <;> rfl) | (simp [*, errW_none, errW_some] <;> rfl), by repeat (first | (with_reducible first | exact HB.out | apply below_alloc | apply pw_below_drewN | apply below_drew1 | refine below_set ?_ GE147.out) | exact HB.out)⟩
                      · replace c40 := Bool.eq_false_iff.mpr c40
                        subst c40
                        have H1 : (if ((rd_T32 l0 x5_2).f0) = 1 then (if (((rd_T32 l0 x5_2).f3).length : Int) > 0 then (some false) else (if ((rd_T32 l0 x5_2).f0) = 3 then ((spandrelref18_body.f kj17 ((rd_T32 l0 x5_2).f3) (wrap64 (a1 + 1))).bind fun t155 => (if t155 = true then ((spandrelref18_body.f kj17 ((rd_T32 l0 x5_2).f4) (wrap64 (a1 + 1))).bind fun t156 => (if t156 = true then (spandrelref18_body.l0 kj17 l0 a1 (wrap64 (x5_2 + 1))) else (some false))) else (some false))) else (if (((rd_T32 l0 x5_2).f4).length : Int) > 0 then (some false) else ((spandrelref18_body.f kj17 ((rd_T32 l0 x5_2).f3) (wrap64 (a1 + 1))).bind fun t157 => (if t157 = true then ((spandrelref18_body.f kj17 ((rd_T32 l0 x5_2).f4) (wrap64 (a1 + 1))).bind fun t158 => (if t158 = true then (spandrelref18_body.l0 kj17 l0 a1 (wrap64 (x5_2 + 1))) else (some false))) else (some false)))))) else (if ((rd_T32 l0 x5_2).f0) = 3 then ((spandrelref18_body.f kj17 ((rd_T32 l0 x5_2).f3) (wrap64 (a1 + 1))).bind fun t159 => (if t159 = true then ((spandrelref18_body.f kj17 ((rd_T32 l0 x5_2).f4) (wrap64 (a1 + 1))).bind fun t160 => (if t160 = true then (spandrelref18_body.l0 kj17 l0 a1 (wrap64 (x5_2 + 1))) else (some false))) else (some false))) else (if (((rd_T32 l0 x5_2).f4).length : Int) > 0 then (some false) else ((spandrelref18_body.f kj17 ((rd_T32 l0 x5_2).f3) (wrap64 (a1 + 1))).bind fun t161 => (if t161 = true then ((spandrelref18_body.f kj17 ((rd_T32 l0 x5_2).f4) (wrap64 (a1 + 1))).bind fun t162 => (if t162 = true then (spandrelref18_body.l0 kj17 l0 a1 (wrap64 (x5_2 + 1))) else (some false))) else (some false)))))) = some r := by rw [if_neg (show ¬ (false = true) by decide)] at H; exact H
                        clear H
                        have H := H1
                        clear H1
                        by_cases c41 : ((rd_T32 l0 x5_2).f0) = 1
                        · rw [if_pos c41] at H
                          have c41b0 : (((rd_T32 l0 x5_2).f0) == 1) = true := beq_iff_eq.mpr c41
                          have c41b1 : (((rd_T32 l0 x5_2).f0) != 1) = false := bne_eq_false_iff_eq.mpr c41
                          clear c41
                          by_cases c42 : (((rd_T32 l0 x5_2).f3).length : Int) > 0
                          · rw [if_pos c42] at H
                            have c42b0 : decide (0 < (((rd_T32 l0 x5_2).f3).length : Int)) = true := decide_eq_true c42
                            have c42b1 : decide (0 < ((rd_T32 l0 x5_2).f3).length) = true := decide_eq_true (by omega)
                            clear c42
                            obtain rfl := Option.some.inj H
                            have hcz43_0 : wc.cell? ⟨gb147, 0, none⟩ = some (.int .i64 ((rd_T32 l0 x5_2).f0)) := (blk_cell BK147.out 0).trans rfl
                            have hcz43_1 : wc.cell? ⟨gb147, 1, none⟩ = some (.string ((rd_T32 l0 x5_2).f1)) := (blk_cell BK147.out 1).trans rfl
                            have hcz43_2 : wc.cell? ⟨gb147, 2, none⟩ = some (.slice A146_2 ((rd_T32 l0 x5_2).f2).length c146_2) := (blk_cell BK147.out 2).trans rfl
                            have hcz43_3 : wc.cell? ⟨gb147, 3, none⟩ = some (.slice A146_3 ((rd_T32 l0 x5_2).f3).length c146_3) := (blk_cell BK147.out 3).trans rfl
                            have hcz43_4 : wc.cell? ⟨gb147, 4, none⟩ = some (.slice A146_4 ((rd_T32 l0 x5_2).f4).length c146_4) := (blk_cell BK147.out 4).trans rfl
                            have hfz43_0 := blk_frozen BK147.out 0
                            have hfz43_1 := blk_frozen BK147.out 1
                            have hfz43_2 := blk_frozen BK147.out 2
                            have hfz43_3 := blk_frozen BK147.out 3
                            have hfz43_4 := blk_frozen BK147.out 4
                            go_wp2
                            go_ret
                            exact ⟨by first | rfl | (simp [errW_none, errW_some] <;> rfl) | (simp [*, errW_none, errW_some] <;> rfl), by repeat (first | (with_reducible first | exact HB.out | apply below_alloc | apply pw_below_drewN | apply below_drew1 | refine below_set ?_ GE147.out) | exact HB.out)⟩
                          · rw [if_neg c42] at H
                            have c42b0 : decide (0 < (((rd_T32 l0 x5_2).f3).length : Int)) = false := decide_eq_false c42
                            have c42b1 : decide (0 < ((rd_T32 l0 x5_2).f3).length) = false := decide_eq_false (by omega)
                            clear c42
                            by_cases c44 : ((rd_T32 l0 x5_2).f0) = 3
                            · rw [if_pos c44] at H
                              have c44b0 : (((rd_T32 l0 x5_2).f0) == 3) = true := beq_iff_eq.mpr c44
                              have c44b1 : (((rd_T32 l0 x5_2).f0) != 3) = false := bne_eq_false_iff_eq.mpr c44
                              clear c44
                              replace H := Option.bind_eq_some_iff.mp H
                              obtain ⟨t155, A450, H⟩ := H
                              replace H : (if t155 = true then ((spandrelref18_body.f kj17 ((rd_T32 l0 x5_2).f4) (wrap64 (a1 + 1))).bind fun t156 => (if t156 = true then (spandrelref18_body.l0 kj17 l0 a1 (wrap64 (x5_2 + 1))) else (some false))) else (some false)) = some r := H
                              have A45 := Aside0.mk A450
                              clear A450
                              by_cases c46 : t155 = true
                              · subst c46
                                have H1 : ((spandrelref18_body.f kj17 ((rd_T32 l0 x5_2).f4) (wrap64 (a1 + 1))).bind fun t156 => (if t156 = true then (spandrelref18_body.l0 kj17 l0 a1 (wrap64 (x5_2 + 1))) else (some false))) = some r := by rw [if_pos rfl] at H; exact H
                                clear H
                                have H := H1
                                clear H1
                                replace H := Option.bind_eq_some_iff.mp H
                                obtain ⟨t156, A470, H⟩ := H
                                replace H : (if t156 = true then (spandrelref18_body.l0 kj17 l0 a1 (wrap64 (x5_2 + 1))) else (some false)) = some r := H
                                have A47 := Aside0.mk A470
                                clear A470
                                by_cases c48 : t156 = true
                                · subst c48
                                  have H1 : (spandrelref18_body.l0 kj17 l0 a1 (wrap64 (x5_2 + 1))) = some r := by rw [if_pos rfl] at H; exact H
                                  clear H
                                  have H := H1
                                  clear H1
                                  have H' := Aside0.mk H
                                  clear H
                                  have hcz49_0 : wc.cell? ⟨gb147, 0, none⟩ = some (.int .i64 ((rd_T32 l0 x5_2).f0)) := (blk_cell BK147.out 0).trans rfl
                                  have hcz49_1 : wc.cell? ⟨gb147, 1, none⟩ = some (.string ((rd_T32 l0 x5_2).f1)) := (blk_cell BK147.out 1).trans rfl
                                  have hcz49_2 : wc.cell? ⟨gb147, 2, none⟩ = some (.slice A146_2 ((rd_T32 l0 x5_2).f2).length c146_2) := (blk_cell BK147.out 2).trans rfl
                                  have hcz49_3 : wc.cell? ⟨gb147, 3, none⟩ = some (.slice A146_3 ((rd_T32 l0 x5_2).f3).length c146_3) := (blk_cell BK147.out 3).trans rfl
                                  have hcz49_4 : wc.cell? ⟨gb147, 4, none⟩ = some (.slice A146_4 ((rd_T32 l0 x5_2).f4).length c146_4) := (blk_cell BK147.out 4).trans rfl
                                  have hfz49_0 := blk_frozen BK147.out 0
                                  have hfz49_1 := blk_frozen BK147.out 1
                                  have hfz49_2 := blk_frozen BK147.out 2
                                  have hfz49_3 := blk_frozen BK147.out 3
                                  have hfz49_4 := blk_frozen BK147.out 4
                                  go_wp2_with (first | (go_at_call 62; (with_reducible refine (ih kj17 (by have := HJ2.out; have := HK2.out; have := HJ17.out; omega) _ _ ((rd_T32 l0 x5_2).f3) (wrap64 (a1 + 1)) true _ ?side1 ?side2 A45.out).mono ?_); (case side1 => repeat (first | exact (Kd.C_below HR146_3.out HB.out) | (with_reducible refine Kd.C_alloc ?_ _) | (with_reducible refine Kd.C_drewN ?_ _) | (with_reducible refine Kd.C_drew ?_))); (case side2 => exact HC146_3.out); rintro e w50 ⟨rfl, hb⟩; have n0_ := Aside0.mk (blk_below (g := gb147) (o := .cells #[.int .i64 ((rd_T32 l0 x5_2).f0), .string ((rd_T32 l0 x5_2).f1), .slice A146_2 ((rd_T32 l0 x5_2).f2).length c146_2, .slice A146_3 ((rd_T32 l0 x5_2).f3).length c146_3, .slice A146_4 ((rd_T32 l0 x5_2).f4).length c146_4] 32 (0, 0)) (by (with_reducible repeat (first | refine blk_drewN ?_ _ | refine blk_drew ?_ | refine blk_alloc ?_ _)); exact BK147.out) hb); have n1_ := Aside0.mk (below_step (by repeat (first | (with_reducible first | exact HB.out | apply below_alloc | apply pw_below_drewN | apply below_drew1 | refine below_set ?_ GE147.out) | exact HB.out)) hb); clear BK147; clear HB; have BK147 := n0_; have HB := n1_; clear n0_ n1_; (try clear hb); (try clear hb2); (try clear hk); (try clear hi); have hcz51_0 : w50.cell? ⟨gb147, 0, none⟩ = some (.int .i64 ((rd_T32 l0 x5_2).f0)) := (blk_cell BK147.out 0).trans rfl; have hcz51_1 : w50.cell? ⟨gb147, 1, none⟩ = some (.string ((rd_T32 l0 x5_2).f1)) := (blk_cell BK147.out 1).trans rfl; have hcz51_2 : w50.cell? ⟨gb147, 2, none⟩ = some (.slice A146_2 ((rd_T32 l0 x5_2).f2).length c146_2) := (blk_cell BK147.out 2).trans rfl; have hcz51_3 : w50.cell? ⟨gb147, 3, none⟩ = some (.slice A146_3 ((rd_T32 l0 x5_2).f3).length c146_3) := (blk_cell BK147.out 3).trans rfl; have hcz51_4 : w50.cell? ⟨gb147, 4, none⟩ = some (.slice A146_4 ((rd_T32 l0 x5_2).f4).length c146_4) := (blk_cell BK147.out 4).trans rfl; have hfz51_0 := blk_frozen BK147.out 0; have hfz51_1 := blk_frozen BK147.out 1; have hfz51_2 := blk_frozen BK147.out 2; have hfz51_3 := blk_frozen BK147.out 3; have hfz51_4 := blk_frozen BK147.out 4) | (go_at_call 62; (with_reducible refine (ih kj17 (by have := HJ2.out; have := HK2.out; have := HJ17.out; omega) _ _ ((rd_T32 l0 x5_2).f4) (wrap64 (a1 + 1)) true _ ?side1 ?side2 A47.out).mono ?_); (case side1 => repeat (first | exact (Kd.C_below HR146_4.out HB.out) | (with_reducible refine Kd.C_alloc ?_ _) | (with_reducible refine Kd.C_drewN ?_ _) | (with_reducible refine Kd.C_drew ?_))); (case side2 => exact HC146_4.out); rintro e w52 ⟨rfl, hb⟩; have n0_ := Aside0.mk (blk_below (g := gb147) (o := .cells #[.int .i64 ((rd_T32 l0 x5_2).f0), .string ((rd_T32 l0 x5_2).f1), .slice A146_2 ((rd_T32 l0 x5_2).f2).length c146_2, .slice A146_3 ((rd_T32 l0 x5_2).f3).length c146_3, .slice A146_4 ((rd_T32 l0 x5_2).f4).length c146_4] 32 (0, 0)) (by (with_reducible repeat (first | refine blk_drewN ?_ _ | refine blk_drew ?_ | refine blk_alloc ?_ _)); exact BK147.out) hb); have n1_ := Aside0.mk (below_step (by repeat (first | (with_reducible first | exact HB.out | apply below_alloc | apply pw_below_drewN | apply below_drew1 | refine below_set ?_ GE147.out) | exact HB.out)) hb); clear BK147; clear HB; have BK147 := n0_; have HB := n1_; clear n0_ n1_; (try clear hb); (try clear hb2); (try clear hk); (try clear hi)))
                                  go_roundg kj17
                                  case measure => have := HJ2.out; have := HK2.out; have := HJ17.out; omega
                                  case rel => exact ⟨(wrap64 (x5_2 + 1)), (by first | rfl | (simp; done) | (simp [*]; done)), H', ⟨by have := HJ2.out; have := HK2.out; have := HJ17.out; omega⟩, ⟨by repeat (first | (with_reducible first | exact HB.out | apply below_alloc | apply pw_below_drewN | apply below_drew1 | refine below_set ?_ GE147.out) | exact HB.out)⟩⟩
                                · replace c48 := Bool.eq_false_iff.mpr c48
                                  subst c48
                                  have H1 : (some false) = some r := by rw [if_neg (show ¬ (false = true) by decide)] at H; exact H
                                  clear H
                                  have H := H1
                                  clear H1
                                  obtain rfl := Option.some.inj H
                                  have hcz53_0 : wc.cell? ⟨gb147, 0, none⟩ = some (.int .i64 ((rd_T32 l0 x5_2).f0)) := (blk_cell BK147.out 0).trans rfl
                                  have hcz53_1 : wc.cell? ⟨gb147, 1, none⟩ = some (.string ((rd_T32 l0 x5_2).f1)) := (blk_cell BK147.out 1).trans rfl
                                  have hcz53_2 : wc.cell? ⟨gb147, 2, none⟩ = some (.slice A146_2 ((rd_T32 l0 x5_2).f2).length c146_2) := (blk_cell BK147.out 2).trans rfl
                                  have hcz53_3 : wc.cell? ⟨gb147, 3, none⟩ = some (.slice A146_3 ((rd_T32 l0 x5_2).f3).length c146_3) := (blk_cell BK147.out 3).trans rfl
                                  have hcz53_4 : wc.cell? ⟨gb147, 4, none⟩ = some (.slice A146_4 ((rd_T32 l0 x5_2).f4).length c146_4) := (blk_cell BK147.out 4).trans rfl
                                  have hfz53_0 := blk_frozen BK147.out 0
                                  have hfz53_1 := blk_frozen BK147.out 1
                                  have hfz53_2 := blk_frozen BK147.out 2
                                  have hfz53_3 := blk_frozen BK147.out 3
                                  have hfz53_4 := blk_frozen BK147.out 4
                                  go_wp2_with (first | (go_at_call 62; (with_reducible refine (ih kj17 (by have := HJ2.out; have := HK2.out; have := HJ17.out; omega) _ _ ((rd_T32 l0 x5_2).f3) (wrap64 (a1 + 1)) true _ ?side1 ?side2 A45.out).mono ?_); (case side1 => repeat (first | exact (Kd.C_below HR146_3.out HB.out) | (with_reducible refine Kd.C_alloc ?_ _) | (with_reducible refine Kd.C_drewN ?_ _) | (with_reducible refine Kd.C_drew ?_))); (case side2 => exact HC146_3.out); rintro e w54 ⟨rfl, hb⟩; have n0_ := Aside0.mk (blk_below (g := gb147) (o := .cells #[.int .i64 ((rd_T32 l0 x5_2).f0), .string ((rd_T32 l0 x5_2).f1), .slice A146_2 ((rd_T32 l0 x5_2).f2).length c146_2, .slice A146_3 ((rd_T32 l0 x5_2).f3).length c146_3, .slice A146_4 ((rd_T32 l0 x5_2).f4).length c146_4] 32 (0, 0)) (by (with_reducible repeat (first | refine blk_drewN ?_ _ | refine blk_drew ?_ | refine blk_alloc ?_ _)); exact BK147.out) hb); have n1_ := Aside0.mk (below_step (by repeat (first | (with_reducible first | exact HB.out | apply below_alloc | apply pw_below_drewN | apply below_drew1 | refine below_set ?_ GE147.out) | exact HB.out)) hb); clear BK147; clear HB; have BK147 := n0_; have HB := n1_; clear n0_ n1_; (try clear hb); (try clear hb2); (try clear hk); (try clear hi); have hcz55_0 : w54.cell? ⟨gb147, 0, none⟩ = some (.int .i64 ((rd_T32 l0 x5_2).f0)) := (blk_cell BK147.out 0).trans rfl; have hcz55_1 : w54.cell? ⟨gb147, 1, none⟩ = some (.string ((rd_T32 l0 x5_2).f1)) := (blk_cell BK147.out 1).trans rfl; have hcz55_2 : w54.cell? ⟨gb147, 2, none⟩ = some (.slice A146_2 ((rd_T32 l0 x5_2).f2).length c146_2) := (blk_cell BK147.out 2).trans rfl; have hcz55_3 : w54.cell? ⟨gb147, 3, none⟩ = some (.slice A146_3 ((rd_T32 l0 x5_2).f3).length c146_3) := (blk_cell BK147.out 3).trans rfl; have hcz55_4 : w54.cell? ⟨gb147, 4, none⟩ = some (.slice A146_4 ((rd_T32 l0 x5_2).f4).length c146_4) := (blk_cell BK147.out 4).trans rfl; have hfz55_0 := blk_frozen BK147.out 0; have hfz55_1 := blk_frozen BK147.out 1; have hfz55_2 := blk_frozen BK147.out 2; have hfz55_3 := blk_frozen BK147.out 3; have hfz55_4 := blk_frozen BK147.out 4) | (go_at_call 62; (with_reducible refine (ih kj17 (by have := HJ2.out; have := HK2.out; have := HJ17.out; omega) _ _ ((rd_T32 l0 x5_2).f4) (wrap64 (a1 + 1)) false _ ?side1 ?side2 A47.out).mono ?_); (case side1 => repeat (first | exact (Kd.C_below HR146_4.out HB.out) | (with_reducible refine Kd.C_alloc ?_ _) | (with_reducible refine Kd.C_drewN ?_ _) | (with_reducible refine Kd.C_drew ?_))); (case side2 => exact HC146_4.out); rintro e w56 ⟨rfl, hb⟩; have n0_ := Aside0.mk (blk_below (g := gb147) (o := .cells #[.int .i64 ((rd_T32 l0 x5_2).f0), .string ((rd_T32 l0 x5_2).f1), .slice A146_2 ((rd_T32 l0 x5_2).f2).length c146_2, .slice A146_3 ((rd_T32 l0 x5_2).f3).length c146_3, .slice A146_4 ((rd_T32 l0 x5_2).f4).length c146_4] 32 (0, 0)) (by (with_reducible repeat (first | refine blk_drewN ?_ _ | refine blk_drew ?_ | refine blk_alloc ?_ _)); exact BK147.out) hb); have n1_ := Aside0.mk (below_step (by repeat (first | (with_reducible first | exact HB.out | apply below_alloc | apply pw_below_drewN | apply below_drew1 | refine below_set ?_ GE147.out) | exact HB.out)) hb); clear BK147; clear HB; have BK147 := n0_; have HB := n1_; clear n0_ n1_; (try clear hb); (try clear hb2); (try clear hk); (try clear hi)))
                                  go_ret
                                  exact ⟨by first | rfl | (simp [errW_none, errW_some] <;> rfl) | (simp [*, errW_none, errW_some] <;> rfl), by repeat (first | (with_reducible first | exact HB.out | apply below_alloc | apply pw_below_drewN | apply below_drew1 | refine below_set ?_ GE147.out) | exact HB.out)⟩
                              · replace c46 := Bool.eq_false_iff.mpr c46
                                subst c46
                                have H1 : (some false) = some r := by rw [if_neg (show ¬ (false = true) by decide)] at H; exact H
                                clear H
                                have H := H1
                                clear H1
                                obtain rfl := Option.some.inj H
                                have hcz57_0 : wc.cell? ⟨gb147, 0, none⟩ = some (.int .i64 ((rd_T32 l0 x5_2).f0)) := (blk_cell BK147.out 0).trans rfl
                                have hcz57_1 : wc.cell? ⟨gb147, 1, none⟩ = some (.string ((rd_T32 l0 x5_2).f1)) := (blk_cell BK147.out 1).trans rfl
                                have hcz57_2 : wc.cell? ⟨gb147, 2, none⟩ = some (.slice A146_2 ((rd_T32 l0 x5_2).f2).length c146_2) := (blk_cell BK147.out 2).trans rfl
                                have hcz57_3 : wc.cell? ⟨gb147, 3, none⟩ = some (.slice A146_3 ((rd_T32 l0 x5_2).f3).length c146_3) := (blk_cell BK147.out 3).trans rfl
                                have hcz57_4 : wc.cell? ⟨gb147, 4, none⟩ = some (.slice A146_4 ((rd_T32 l0 x5_2).f4).length c146_4) := (blk_cell BK147.out 4).trans rfl
                                have hfz57_0 := blk_frozen BK147.out 0
                                have hfz57_1 := blk_frozen BK147.out 1
                                have hfz57_2 := blk_frozen BK147.out 2
                                have hfz57_3 := blk_frozen BK147.out 3
                                have hfz57_4 := blk_frozen BK147.out 4
                                go_wp2_with (first | (go_at_call 62; (with_reducible refine (ih kj17 (by have := HJ2.out; have := HK2.out; have := HJ17.out; omega) _ _ ((rd_T32 l0 x5_2).f3) (wrap64 (a1 + 1)) false _ ?side1 ?side2 A45.out).mono ?_); (case side1 => repeat (first | exact (Kd.C_below HR146_3.out HB.out) | (with_reducible refine Kd.C_alloc ?_ _) | (with_reducible refine Kd.C_drewN ?_ _) | (with_reducible refine Kd.C_drew ?_))); (case side2 => exact HC146_3.out); rintro e w58 ⟨rfl, hb⟩; have n0_ := Aside0.mk (blk_below (g := gb147) (o := .cells #[.int .i64 ((rd_T32 l0 x5_2).f0), .string ((rd_T32 l0 x5_2).f1), .slice A146_2 ((rd_T32 l0 x5_2).f2).length c146_2, .slice A146_3 ((rd_T32 l0 x5_2).f3).length c146_3, .slice A146_4 ((rd_T32 l0 x5_2).f4).length c146_4] 32 (0, 0)) (by (with_reducible repeat (first | refine blk_drewN ?_ _ | refine blk_drew ?_ | refine blk_alloc ?_ _)); exact BK147.out) hb); have n1_ := Aside0.mk (below_step (by repeat (first | (with_reducible first | exact HB.out | apply below_alloc | apply pw_below_drewN | apply below_drew1 | refine below_set ?_ GE147.out) | exact HB.out)) hb); clear BK147; clear HB; have BK147 := n0_; have HB := n1_; clear n0_ n1_; (try clear hb); (try clear hb2); (try clear hk); (try clear hi)))
                                go_ret
                                exact ⟨by first | rfl | (simp [errW_none, errW_some] <;> rfl) | (simp [*, errW_none, errW_some] <;> rfl), by repeat (first | (with_reducible first | exact HB.out | apply below_alloc | apply pw_below_drewN | apply below_drew1 | refine below_set ?_ GE147.out) | exact HB.out)⟩
                            · rw [if_neg c44] at H
                              have c44b0 : (((rd_T32 l0 x5_2).f0) == 3) = false := beq_eq_false_iff_ne.mpr c44
                              have c44b1 : (((rd_T32 l0 x5_2).f0) != 3) = true := bne_iff_ne.mpr c44
                              by_cases c59 : (((rd_T32 l0 x5_2).f4).length : Int) > 0
                              · rw [if_pos c59] at H
                                have c59b0 : decide (0 < (((rd_T32 l0 x5_2).f4).length : Int)) = true := decide_eq_true c59
                                have c59b1 : decide (0 < ((rd_T32 l0 x5_2).f4).length) = true := decide_eq_true (by omega)
                                clear c59
                                obtain rfl := Option.some.inj H
                                have hcz60_0 : wc.cell? ⟨gb147, 0, none⟩ = some (.int .i64 ((rd_T32 l0 x5_2).f0)) := (blk_cell BK147.out 0).trans rfl
                                have hcz60_1 : wc.cell? ⟨gb147, 1, none⟩ = some (.string ((rd_T32 l0 x5_2).f1)) := (blk_cell BK147.out 1).trans rfl
                                have hcz60_2 : wc.cell? ⟨gb147, 2, none⟩ = some (.slice A146_2 ((rd_T32 l0 x5_2).f2).length c146_2) := (blk_cell BK147.out 2).trans rfl
                                have hcz60_3 : wc.cell? ⟨gb147, 3, none⟩ = some (.slice A146_3 ((rd_T32 l0 x5_2).f3).length c146_3) := (blk_cell BK147.out 3).trans rfl
                                have hcz60_4 : wc.cell? ⟨gb147, 4, none⟩ = some (.slice A146_4 ((rd_T32 l0 x5_2).f4).length c146_4) := (blk_cell BK147.out 4).trans rfl
                                have hfz60_0 := blk_frozen BK147.out 0
                                have hfz60_1 := blk_frozen BK147.out 1
                                have hfz60_2 := blk_frozen BK147.out 2
                                have hfz60_3 := blk_frozen BK147.out 3
                                have hfz60_4 := blk_frozen BK147.out 4
                                go_wp2
                                go_ret
                                exact ⟨by first | rfl | (simp [errW_none, errW_some] <;> rfl) | (simp [*, errW_none, errW_some] <;> rfl), by repeat (first | (with_reducible first | exact HB.out | apply below_alloc | apply pw_below_drewN | apply below_drew1 | refine below_set ?_ GE147.out) | exact HB.out)⟩
                              · rw [if_neg c59] at H
                                have c59b0 : decide (0 < (((rd_T32 l0 x5_2).f4).length : Int)) = false := decide_eq_false c59
                                have c59b1 : decide (0 < ((rd_T32 l0 x5_2).f4).length) = false := decide_eq_false (by omega)
                                clear c59
                                replace H := Option.bind_eq_some_iff.mp H
                                obtain ⟨t157, A610, H⟩ := H
                                replace H : (if t157 = true then ((spandrelref18_body.f kj17 ((rd_T32 l0 x5_2).f4) (wrap64 (a1 + 1))).bind fun t158 => (if t158 = true then (spandrelref18_body.l0 kj17 l0 a1 (wrap64 (x5_2 + 1))) else (some false))) else (some false)) = some r := H
                                have A61 := Aside0.mk A610
                                clear A610
                                by_cases c62 : t157 = true
                                · subst c62
                                  have H1 : ((spandrelref18_body.f kj17 ((rd_T32 l0 x5_2).f4) (wrap64 (a1 + 1))).bind fun t158 => (if t158 = true then (spandrelref18_body.l0 kj17 l0 a1 (wrap64 (x5_2 + 1))) else (some false))) = some r := by rw [if_pos rfl] at H; exact H
                                  clear H
                                  have H := H1
                                  clear H1
                                  replace H := Option.bind_eq_some_iff.mp H
                                  obtain ⟨t158, A630, H⟩ := H
                                  replace H : (if t158 = true then (spandrelref18_body.l0 kj17 l0 a1 (wrap64 (x5_2 + 1))) else (some false)) = some r := H
                                  have A63 := Aside0.mk A630
                                  clear A630
                                  by_cases c64 : t158 = true
                                  · subst c64
                                    have H1 : (spandrelref18_body.l0 kj17 l0 a1 (wrap64 (x5_2 + 1))) = some r := by rw [if_pos rfl] at H; exact H
                                    clear H
                                    have H := H1
                                    clear H1
                                    have H' := Aside0.mk H
                                    clear H
                                    have hcz65_0 : wc.cell? ⟨gb147, 0, none⟩ = some (.int .i64 ((rd_T32 l0 x5_2).f0)) := (blk_cell BK147.out 0).trans rfl
                                    have hcz65_1 : wc.cell? ⟨gb147, 1, none⟩ = some (.string ((rd_T32 l0 x5_2).f1)) := (blk_cell BK147.out 1).trans rfl
                                    have hcz65_2 : wc.cell? ⟨gb147, 2, none⟩ = some (.slice A146_2 ((rd_T32 l0 x5_2).f2).length c146_2) := (blk_cell BK147.out 2).trans rfl
                                    have hcz65_3 : wc.cell? ⟨gb147, 3, none⟩ = some (.slice A146_3 ((rd_T32 l0 x5_2).f3).length c146_3) := (blk_cell BK147.out 3).trans rfl
                                    have hcz65_4 : wc.cell? ⟨gb147, 4, none⟩ = some (.slice A146_4 ((rd_T32 l0 x5_2).f4).length c146_4) := (blk_cell BK147.out 4).trans rfl
                                    have hfz65_0 := blk_frozen BK147.out 0
                                    have hfz65_1 := blk_frozen BK147.out 1
                                    have hfz65_2 := blk_frozen BK147.out 2
                                    have hfz65_3 := blk_frozen BK147.out 3
                                    have hfz65_4 := blk_frozen BK147.out 4
                                    go_wp2_with (first | (go_at_call 62; (with_reducible refine (ih kj17 (by have := HJ2.out; have := HK2.out; have := HJ17.out; omega) _ _ ((rd_T32 l0 x5_2).f3) (wrap64 (a1 + 1)) true _ ?side1 ?side2 A61.out).mono ?_); (case side1 => repeat (first | exact (Kd.C_below HR146_3.out HB.out) | (with_reducible refine Kd.C_alloc ?_ _) | (with_reducible refine Kd.C_drewN ?_ _) | (with_reducible refine Kd.C_drew ?_))); (case side2 => exact HC146_3.out); rintro e w66 ⟨rfl, hb⟩; have n0_ := Aside0.mk (blk_below (g := gb147) (o := .cells #[.int .i64 ((rd_T32 l0 x5_2).f0), .string ((rd_T32 l0 x5_2).f1), .slice A146_2 ((rd_T32 l0 x5_2).f2).length c146_2, .slice A146_3 ((rd_T32 l0 x5_2).f3).length c146_3, .slice A146_4 ((rd_T32 l0 x5_2).f4).length c146_4] 32 (0, 0)) (by (with_reducible repeat (first | refine blk_drewN ?_ _ | refine blk_drew ?_ | refine blk_alloc ?_ _)); exact BK147.out) hb); have n1_ := Aside0.mk (below_step (by repeat (first | (with_reducible first | exact HB.out | apply below_alloc | apply pw_below_drewN | apply below_drew1 | refine below_set ?_ GE147.out) | exact HB.out)) hb); clear BK147; clear HB; have BK147 := n0_; have HB := n1_; clear n0_ n1_; (try clear hb); (try clear hb2); (try clear hk); (try clear hi); have hcz67_0 : w66.cell? ⟨gb147, 0, none⟩ = some (.int .i64 ((rd_T32 l0 x5_2).f0)) := (blk_cell BK147.out 0).trans rfl; have hcz67_1 : w66.cell? ⟨gb147, 1, none⟩ = some (.string ((rd_T32 l0 x5_2).f1)) := (blk_cell BK147.out 1).trans rfl; have hcz67_2 : w66.cell? ⟨gb147, 2, none⟩ = some (.slice A146_2 ((rd_T32 l0 x5_2).f2).length c146_2) := (blk_cell BK147.out 2).trans rfl; have hcz67_3 : w66.cell? ⟨gb147, 3, none⟩ = some (.slice A146_3 ((rd_T32 l0 x5_2).f3).length c146_3) := (blk_cell BK147.out 3).trans rfl; have hcz67_4 : w66.cell? ⟨gb147, 4, none⟩ = some (.slice A146_4 ((rd_T32 l0 x5_2).f4).length c146_4) := (blk_cell BK147.out 4).trans rfl; have hfz67_0 := blk_frozen BK147.out 0; have hfz67_1 := blk_frozen BK147.out 1; have hfz67_2 := blk_frozen BK147.out 2; have hfz67_3 := blk_frozen BK147.out 3; have hfz67_4 := blk_frozen BK147.out 4) | (go_at_call 62; (with_reducible refine (ih kj17 (by have := HJ2.out; have := HK2.out; have := HJ17.out; omega) _ _ ((rd_T32 l0 x5_2).f4) (wrap64 (a1 + 1)) true _ ?side1 ?side2 A63.out).mono ?_); (case side1 => repeat (first | exact (Kd.C_below HR146_4.out HB.out) | (with_reducible refine Kd.C_alloc ?_ _) | (with_reducible refine Kd.C_drewN ?_ _) | (with_reducible refine Kd.C_drew ?_))); (case side2 => exact HC146_4.out); rintro e w68 ⟨rfl, hb⟩; have n0_ := Aside0.mk (blk_below (g := gb147) (o := .cells #[.int .i64 ((rd_T32 l0 x5_2).f0), .string ((rd_T32 l0 x5_2).f1), .slice A146_2 ((rd_T32 l0 x5_2).f2).length c146_2, .slice A146_3 ((rd_T32 l0 x5_2).f3).length c146_3, .slice A146_4 ((rd_T32 l0 x5_2).f4).length c146_4] 32 (0, 0)) (by (with_reducible repeat (first | refine blk_drewN ?_ _ | refine blk_drew ?_ | refine blk_alloc ?_ _)); exact BK147.out) hb); have n1_ := Aside0.mk (below_step (by repeat (first | (with_reducible first | exact HB.out | apply below_alloc | apply pw_below_drewN | apply below_drew1 | refine below_set ?_ GE147.out) | exact HB.out)) hb); clear BK147; clear HB; have BK147 := n0_; have HB := n1_; clear n0_ n1_; (try clear hb); (try clear hb2); (try clear hk); (try clear hi)))
                                    go_roundg kj17
                                    case measure => have := HJ2.out; have := HK2.out; have := HJ17.out; omega
                                    case rel => exact ⟨(wrap64 (x5_2 + 1)), (by first | rfl | (simp; done) | (simp [*]; done)), H', ⟨by have := HJ2.out; have := HK2.out; have := HJ17.out; omega⟩, ⟨by repeat (first | (with_reducible first | exact HB.out | apply below_alloc | apply pw_below_drewN | apply below_drew1 | refine below_set ?_ GE147.out) | exact HB.out)⟩⟩
                                  · replace c64 := Bool.eq_false_iff.mpr c64
                                    subst c64
                                    have H1 : (some false) = some r := by rw [if_neg (show ¬ (false = true) by decide)] at H; exact H
                                    clear H
                                    have H := H1
                                    clear H1
                                    obtain rfl := Option.some.inj H
                                    have hcz69_0 : wc.cell? ⟨gb147, 0, none⟩ = some (.int .i64 ((rd_T32 l0 x5_2).f0)) := (blk_cell BK147.out 0).trans rfl
                                    have hcz69_1 : wc.cell? ⟨gb147, 1, none⟩ = some (.string ((rd_T32 l0 x5_2).f1)) := (blk_cell BK147.out 1).trans rfl
                                    have hcz69_2 : wc.cell? ⟨gb147, 2, none⟩ = some (.slice A146_2 ((rd_T32 l0 x5_2).f2).length c146_2) := (blk_cell BK147.out 2).trans rfl
                                    have hcz69_3 : wc.cell? ⟨gb147, 3, none⟩ = some (.slice A146_3 ((rd_T32 l0 x5_2).f3).length c146_3) := (blk_cell BK147.out 3).trans rfl
                                    have hcz69_4 : wc.cell? ⟨gb147, 4, none⟩ = some (.slice A146_4 ((rd_T32 l0 x5_2).f4).length c146_4) := (blk_cell BK147.out 4).trans rfl
                                    have hfz69_0 := blk_frozen BK147.out 0
                                    have hfz69_1 := blk_frozen BK147.out 1
                                    have hfz69_2 := blk_frozen BK147.out 2
                                    have hfz69_3 := blk_frozen BK147.out 3
                                    have hfz69_4 := blk_frozen BK147.out 4
                                    go_wp2_with (first | (go_at_call 62; (with_reducible refine (ih kj17 (by have := HJ2.out; have := HK2.out; have := HJ17.out; omega) _ _ ((rd_T32 l0 x5_2).f3) (wrap64 (a1 + 1)) true _ ?side1 ?side2 A61.out).mono ?_); (case side1 => repeat (first | exact (Kd.C_below HR146_3.out HB.out) | (with_reducible refine Kd.C_alloc ?_ _) | (with_reducible refine Kd.C_drewN ?_ _) | (with_reducible refine Kd.C_drew ?_))); (case side2 => exact HC146_3.out); rintro e w70 ⟨rfl, hb⟩; have n0_ := Aside0.mk (blk_below (g := gb147) (o := .cells #[.int .i64 ((rd_T32 l0 x5_2).f0), .string ((rd_T32 l0 x5_2).f1), .slice A146_2 ((rd_T32 l0 x5_2).f2).length c146_2, .slice A146_3 ((rd_T32 l0 x5_2).f3).length c146_3, .slice A146_4 ((rd_T32 l0 x5_2).f4).length c146_4] 32 (0, 0)) (by (with_reducible repeat (first | refine blk_drewN ?_ _ | refine blk_drew ?_ | refine blk_alloc ?_ _)); exact BK147.out) hb); have n1_ := Aside0.mk (below_step (by repeat (first | (with_reducible first | exact HB.out | apply below_alloc | apply pw_below_drewN | apply below_drew1 | refine below_set ?_ GE147.out) | exact HB.out)) hb); clear BK147; clear HB; have BK147 := n0_; have HB := n1_; clear n0_ n1_; (try clear hb); (try clear hb2); (try clear hk); (try clear hi); have hcz71_0 : w70.cell? ⟨gb147, 0, none⟩ = some (.int .i64 ((rd_T32 l0 x5_2).f0)) := (blk_cell BK147.out 0).trans rfl; have hcz71_1 : w70.cell? ⟨gb147, 1, none⟩ = some (.string ((rd_T32 l0 x5_2).f1)) := (blk_cell BK147.out 1).trans rfl; have hcz71_2 : w70.cell? ⟨gb147, 2, none⟩ = some (.slice A146_2 ((rd_T32 l0 x5_2).f2).length c146_2) := (blk_cell BK147.out 2).trans rfl; have hcz71_3 : w70.cell? ⟨gb147, 3, none⟩ = some (.slice A146_3 ((rd_T32 l0 x5_2).f3).length c146_3) := (blk_cell BK147.out 3).trans rfl; have hcz71_4 : w70.cell? ⟨gb147, 4, none⟩ = some (.slice A146_4 ((rd_T32 l0 x5_2).f4).length c146_4) := (blk_cell BK147.out 4).trans rfl; have hfz71_0 := blk_frozen BK147.out 0; have hfz71_1 := blk_frozen BK147.out 1; have hfz71_2 := blk_frozen BK147.out 2; have hfz71_3 := blk_frozen BK147.out 3; have hfz71_4 := blk_frozen BK147.out 4) | (go_at_call 62; (with_reducible refine (ih kj17 (by have := HJ2.out; have := HK2.out; have := HJ17.out; omega) _ _ ((rd_T32 l0 x5_2).f4) (wrap64 (a1 + 1)) false _ ?side1 ?side2 A63.out).mono ?_); (case side1 => repeat (first | exact (Kd.C_below HR146_4.out HB.out) | (with_reducible refine Kd.C_alloc ?_ _) | (with_reducible refine Kd.C_drewN ?_ _) | (with_reducible refine Kd.C_drew ?_))); (case side2 => exact HC146_4.out); rintro e w72 ⟨rfl, hb⟩; have n0_ := Aside0.mk (blk_below (g := gb147) (o := .cells #[.int .i64 ((rd_T32 l0 x5_2).f0), .string ((rd_T32 l0 x5_2).f1), .slice A146_2 ((rd_T32 l0 x5_2).f2).length c146_2, .slice A146_3 ((rd_T32 l0 x5_2).f3).length c146_3, .slice A146_4 ((rd_T32 l0 x5_2).f4).length c146_4] 32 (0, 0)) (by (with_reducible repeat (first | refine blk_drewN ?_ _ | refine blk_drew ?_ | refine blk_alloc ?_ _)); exact BK147.out) hb); have n1_ := Aside0.mk (below_step (by repeat (first | (with_reducible first | exact HB.out | apply below_alloc | apply pw_below_drewN | apply below_drew1 | refine below_set ?_ GE147.out) | exact HB.out)) hb); clear BK147; clear HB; have BK147 := n0_; have HB := n1_; clear n0_ n1_; (try clear hb); (try clear hb2); (try clear hk); (try clear hi)))
                                    go_ret
                                    exact ⟨by first | rfl | (simp [errW_none, errW_some] <;> rfl) | (simp [*, errW_none, errW_some] <;> rfl), by repeat (first | (with_reducible first | exact HB.out | apply below_alloc | apply pw_below_drewN | apply below_drew1 | refine below_set ?_ GE147.out) | exact HB.out)⟩
                                · replace c62 := Bool.eq_false_iff.mpr c62
                                  subst c62
                                  have H1 : (some false) = some r := by rw [if_neg (show ¬ (false = true) by decide)] at H; exact H
                                  clear H
                                  have H := H1
                                  clear H1
                                  obtain rfl := Option.some.inj H
                                  have hcz73_0 : wc.cell? ⟨gb147, 0, none⟩ = some (.int .i64 ((rd_T32 l0 x5_2).f0)) := (blk_cell BK147.out 0).trans rfl
                                  have hcz73_1 : wc.cell? ⟨gb147, 1, none⟩ = some (.string ((rd_T32 l0 x5_2).f1)) := (blk_cell BK147.out 1).trans rfl
                                  have hcz73_2 : wc.cell? ⟨gb147, 2, none⟩ = some (.slice A146_2 ((rd_T32 l0 x5_2).f2).length c146_2) := (blk_cell BK147.out 2).trans rfl
                                  have hcz73_3 : wc.cell? ⟨gb147, 3, none⟩ = some (.slice A146_3 ((rd_T32 l0 x5_2).f3).length c146_3) := (blk_cell BK147.out 3).trans rfl
                                  have hcz73_4 : wc.cell? ⟨gb147, 4, none⟩ = some (.slice A146_4 ((rd_T32 l0 x5_2).f4).length c146_4) := (blk_cell BK147.out 4).trans rfl
                                  have hfz73_0 := blk_frozen BK147.out 0
                                  have hfz73_1 := blk_frozen BK147.out 1
                                  have hfz73_2 := blk_frozen BK147.out 2
                                  have hfz73_3 := blk_frozen BK147.out 3
                                  have hfz73_4 := blk_frozen BK147.out 4
                                  go_wp2_with (first | (go_at_call 62; (with_reducible refine (ih kj17 (by have := HJ2.out; have := HK2.out; have := HJ17.out; omega) _ _ ((rd_T32 l0 x5_2).f3) (wrap64 (a1 + 1)) false _ ?side1 ?side2 A61.out).mono ?_); (case side1 => repeat (first | exact (Kd.C_below HR146_3.out HB.out) | (with_reducible refine Kd.C_alloc ?_ _) | (with_reducible refine Kd.C_drewN ?_ _) | (with_reducible refine Kd.C_drew ?_))); (case side2 => exact HC146_3.out); rintro e w74 ⟨rfl, hb⟩; have n0_ := Aside0.mk (blk_below (g := gb147) (o := .cells #[.int .i64 ((rd_T32 l0 x5_2).f0), .string ((rd_T32 l0 x5_2).f1), .slice A146_2 ((rd_T32 l0 x5_2).f2).length c146_2, .slice A146_3 ((rd_T32 l0 x5_2).f3).length c146_3, .slice A146_4 ((rd_T32 l0 x5_2).f4).length c146_4] 32 (0, 0)) (by (with_reducible repeat (first | refine blk_drewN ?_ _ | refine blk_drew ?_ | refine blk_alloc ?_ _)); exact BK147.out) hb); have n1_ := Aside0.mk (below_step (by repeat (first | (with_reducible first | exact HB.out | apply below_alloc | apply pw_below_drewN | apply below_drew1 | refine below_set ?_ GE147.out) | exact HB.out)) hb); clear BK147; clear HB; have BK147 := n0_; have HB := n1_; clear n0_ n1_; (try clear hb); (try clear hb2); (try clear hk); (try clear hi)))
                                  go_ret
                                  exact ⟨by first | rfl | (simp [errW_none, errW_some] <;> rfl) | (simp [*, errW_none, errW_some] <;> rfl), by repeat (first | (with_reducible first | exact HB.out | apply below_alloc | apply pw_below_drewN | apply below_drew1 | refine below_set ?_ GE147.out) | exact HB.out)⟩
                        · rw [if_neg c41] at H
                          have c41b0 : (((rd_T32 l0 x5_2).f0) == 1) = false := beq_eq_false_iff_ne.mpr c41
                          have c41b1 : (((rd_T32 l0 x5_2).f0) != 1) = true := bne_iff_ne.mpr c41
                          by_cases c75 : ((rd_T32 l0 x5_2).f0) = 3
                          · rw [if_pos c75] at H
                            have c75b0 : (((rd_T32 l0 x5_2).f0) == 3) = true := beq_iff_eq.mpr c75
                            have c75b1 : (((rd_T32 l0 x5_2).f0) != 3) = false := bne_eq_false_iff_eq.mpr c75
                            clear c75
                            replace H := Option.bind_eq_some_iff.mp H
                            obtain ⟨t159, A760, H⟩ := H
                            replace H : (if t159 = true then ((spandrelref18_body.f kj17 ((rd_T32 l0 x5_2).f4) (wrap64 (a1 + 1))).bind fun t160 => (if t160 = true then (spandrelref18_body.l0 kj17 l0 a1 (wrap64 (x5_2 + 1))) else (some false))) else (some false)) = some r := H
                            have A76 := Aside0.mk A760
                            clear A760
                            by_cases c77 : t159 = true
                            · subst c77
                              have H1 : ((spandrelref18_body.f kj17 ((rd_T32 l0 x5_2).f4) (wrap64 (a1 + 1))).bind fun t160 => (if t160 = true then (spandrelref18_body.l0 kj17 l0 a1 (wrap64 (x5_2 + 1))) else (some false))) = some r := by rw [if_pos rfl] at H; exact H
                              clear H
                              have H := H1
                              clear H1
                              replace H := Option.bind_eq_some_iff.mp H
                              obtain ⟨t160, A780, H⟩ := H
                              replace H : (if t160 = true then (spandrelref18_body.l0 kj17 l0 a1 (wrap64 (x5_2 + 1))) else (some false)) = some r := H
                              have A78 := Aside0.mk A780
                              clear A780
                              by_cases c79 : t160 = true
                              · subst c79
                                have H1 : (spandrelref18_body.l0 kj17 l0 a1 (wrap64 (x5_2 + 1))) = some r := by rw [if_pos rfl] at H; exact H
                                clear H
                                have H := H1
                                clear H1
                                have H' := Aside0.mk H
                                clear H
                                have hcz80_0 : wc.cell? ⟨gb147, 0, none⟩ = some (.int .i64 ((rd_T32 l0 x5_2).f0)) := (blk_cell BK147.out 0).trans rfl
                                have hcz80_1 : wc.cell? ⟨gb147, 1, none⟩ = some (.string ((rd_T32 l0 x5_2).f1)) := (blk_cell BK147.out 1).trans rfl
                                have hcz80_2 : wc.cell? ⟨gb147, 2, none⟩ = some (.slice A146_2 ((rd_T32 l0 x5_2).f2).length c146_2) := (blk_cell BK147.out 2).trans rfl
                                have hcz80_3 : wc.cell? ⟨gb147, 3, none⟩ = some (.slice A146_3 ((rd_T32 l0 x5_2).f3).length c146_3) := (blk_cell BK147.out 3).trans rfl
                                have hcz80_4 : wc.cell? ⟨gb147, 4, none⟩ = some (.slice A146_4 ((rd_T32 l0 x5_2).f4).length c146_4) := (blk_cell BK147.out 4).trans rfl
                                have hfz80_0 := blk_frozen BK147.out 0
                                have hfz80_1 := blk_frozen BK147.out 1
                                have hfz80_2 := blk_frozen BK147.out 2
                                have hfz80_3 := blk_frozen BK147.out 3
                                have hfz80_4 := blk_frozen BK147.out 4
                                go_wp2_with (first | (go_at_call 62; (with_reducible refine (ih kj17 (by have := HJ2.out; have := HK2.out; have := HJ17.out; omega) _ _ ((rd_T32 l0 x5_2).f3) (wrap64 (a1 + 1)) true _ ?side1 ?side2 A76.out).mono ?_); (case side1 => repeat (first | exact (Kd.C_below HR146_3.out HB.out) | (with_reducible refine Kd.C_alloc ?_ _) | (with_reducible refine Kd.C_drewN ?_ _) | (with_reducible refine Kd.C_drew ?_))); (case side2 => exact HC146_3.out); rintro e w81 ⟨rfl, hb⟩; have n0_ := Aside0.mk (blk_below (g := gb147) (o := .cells #[.int .i64 ((rd_T32 l0 x5_2).f0), .string ((rd_T32 l0 x5_2).f1), .slice A146_2 ((rd_T32 l0 x5_2).f2).length c146_2, .slice A146_3 ((rd_T32 l0 x5_2).f3).length c146_3, .slice A146_4 ((rd_T32 l0 x5_2).f4).length c146_4] 32 (0, 0)) (by (with_reducible repeat (first | refine blk_drewN ?_ _ | refine blk_drew ?_ | refine blk_alloc ?_ _)); exact BK147.out) hb); have n1_ := Aside0.mk (below_step (by repeat (first | (with_reducible first | exact HB.out | apply below_alloc | apply pw_below_drewN | apply below_drew1 | refine below_set ?_ GE147.out) | exact HB.out)) hb); clear BK147; clear HB; have BK147 := n0_; have HB := n1_; clear n0_ n1_; (try clear hb); (try clear hb2); (try clear hk); (try clear hi); have hcz82_0 : w81.cell? ⟨gb147, 0, none⟩ = some (.int .i64 ((rd_T32 l0 x5_2).f0)) := (blk_cell BK147.out 0).trans rfl; have hcz82_1 : w81.cell? ⟨gb147, 1, none⟩ = some (.string ((rd_T32 l0 x5_2).f1)) := (blk_cell BK147.out 1).trans rfl; have hcz82_2 : w81.cell? ⟨gb147, 2, none⟩ = some (.slice A146_2 ((rd_T32 l0 x5_2).f2).length c146_2) := (blk_cell BK147.out 2).trans rfl; have hcz82_3 : w81.cell? ⟨gb147, 3, none⟩ = some (.slice A146_3 ((rd_T32 l0 x5_2).f3).length c146_3) := (blk_cell BK147.out 3).trans rfl; have hcz82_4 : w81.cell? ⟨gb147, 4, none⟩ = some (.slice A146_4 ((rd_T32 l0 x5_2).f4).length c146_4) := (blk_cell BK147.out 4).trans rfl; have hfz82_0 := blk_frozen BK147.out 0; have hfz82_1 := blk_frozen BK147.out 1; have hfz82_2 := blk_frozen BK147.out 2; have hfz82_3 := blk_frozen BK147.out 3; have hfz82_4 := blk_frozen BK147.out 4) | (go_at_call 62; (with_reducible refine (ih kj17 (by have := HJ2.out; have := HK2.out; have := HJ17.out; omega) _ _ ((rd_T32 l0 x5_2).f4) (wrap64 (a1 + 1)) true _ ?side1 ?side2 A78.out).mono ?_); (case side1 => repeat (first | exact (Kd.C_below HR146_4.out HB.out) | (with_reducible refine Kd.C_alloc ?_ _) | (with_reducible refine Kd.C_drewN ?_ _) | (with_reducible refine Kd.C_drew ?_))); (case side2 => exact HC146_4.out); rintro e w83 ⟨rfl, hb⟩; have n0_ := Aside0.mk (blk_below (g := gb147) (o := .cells #[.int .i64 ((rd_T32 l0 x5_2).f0), .string ((rd_T32 l0 x5_2).f1), .slice A146_2 ((rd_T32 l0 x5_2).f2).length c146_2, .slice A146_3 ((rd_T32 l0 x5_2).f3).length c146_3, .slice A146_4 ((rd_T32 l0 x5_2).f4).length c146_4] 32 (0, 0)) (by (with_reducible repeat (first | refine blk_drewN ?_ _ | refine blk_drew ?_ | refine blk_alloc ?_ _)); exact BK147.out) hb); have n1_ := Aside0.mk (below_step (by repeat (first | (with_reducible first | exact HB.out | apply below_alloc | apply pw_below_drewN | apply below_drew1 | refine below_set ?_ GE147.out) | exact HB.out)) hb); clear BK147; clear HB; have BK147 := n0_; have HB := n1_; clear n0_ n1_; (try clear hb); (try clear hb2); (try clear hk); (try clear hi)))
                                go_roundg kj17
                                case measure => have := HJ2.out; have := HK2.out; have := HJ17.out; omega
                                case rel => exact ⟨(wrap64 (x5_2 + 1)), (by first | rfl | (simp; done) | (simp [*]; done)), H', ⟨by have := HJ2.out; have := HK2.out; have := HJ17.out; omega⟩, ⟨by repeat (first | (with_reducible first | exact HB.out | apply below_alloc | apply pw_below_drewN | apply below_drew1 | refine below_set ?_ GE147.out) | exact HB.out)⟩⟩
                              · replace c79 := Bool.eq_false_iff.mpr c79
                                subst c79
                                have H1 : (some false) = some r := by rw [if_neg (show ¬ (false = true) by decide)] at H; exact H
                                clear H
                                have H := H1
                                clear H1
                                obtain rfl := Option.some.inj H
                                have hcz84_0 : wc.cell? ⟨gb147, 0, none⟩ = some (.int .i64 ((rd_T32 l0 x5_2).f0)) := (blk_cell BK147.out 0).trans rfl
                                have hcz84_1 : wc.cell? ⟨gb147, 1, none⟩ = some (.string ((rd_T32 l0 x5_2).f1)) := (blk_cell BK147.out 1).trans rfl
                                have hcz84_2 : wc.cell? ⟨gb147, 2, none⟩ = some (.slice A146_2 ((rd_T32 l0 x5_2).f2).length c146_2) := (blk_cell BK147.out 2).trans rfl
                                have hcz84_3 : wc.cell? ⟨gb147, 3, none⟩ = some (.slice A146_3 ((rd_T32 l0 x5_2).f3).length c146_3) := (blk_cell BK147.out 3).trans rfl
                                have hcz84_4 : wc.cell? ⟨gb147, 4, none⟩ = some (.slice A146_4 ((rd_T32 l0 x5_2).f4).length c146_4) := (blk_cell BK147.out 4).trans rfl
                                have hfz84_0 := blk_frozen BK147.out 0
                                have hfz84_1 := blk_frozen BK147.out 1
                                have hfz84_2 := blk_frozen BK147.out 2
                                have hfz84_3 := blk_frozen BK147.out 3
                                have hfz84_4 := blk_frozen BK147.out 4
                                go_wp2_with (first | (go_at_call 62; (with_reducible refine (ih kj17 (by have := HJ2.out; have := HK2.out; have := HJ17.out; omega) _ _ ((rd_T32 l0 x5_2).f3) (wrap64 (a1 + 1)) true _ ?side1 ?side2 A76.out).mono ?_); (case side1 => repeat (first | exact (Kd.C_below HR146_3.out HB.out) | (with_reducible refine Kd.C_alloc ?_ _) | (with_reducible refine Kd.C_drewN ?_ _) | (with_reducible refine Kd.C_drew ?_))); (case side2 => exact HC146_3.out); rintro e w85 ⟨rfl, hb⟩; have n0_ := Aside0.mk (blk_below (g := gb147) (o := .cells #[.int .i64 ((rd_T32 l0 x5_2).f0), .string ((rd_T32 l0 x5_2).f1), .slice A146_2 ((rd_T32 l0 x5_2).f2).length c146_2, .slice A146_3 ((rd_T32 l0 x5_2).f3).length c146_3, .slice A146_4 ((rd_T32 l0 x5_2).f4).length c146_4] 32 (0, 0)) (by (with_reducible repeat (first | refine blk_drewN ?_ _ | refine blk_drew ?_ | refine blk_alloc ?_ _)); exact BK147.out) hb); have n1_ := Aside0.mk (below_step (by repeat (first | (with_reducible first | exact HB.out | apply below_alloc | apply pw_below_drewN | apply below_drew1 | refine below_set ?_ GE147.out) | exact HB.out)) hb); clear BK147; clear HB; have BK147 := n0_; have HB := n1_; clear n0_ n1_; (try clear hb); (try clear hb2); (try clear hk); (try clear hi); have hcz86_0 : w85.cell? ⟨gb147, 0, none⟩ = some (.int .i64 ((rd_T32 l0 x5_2).f0)) := (blk_cell BK147.out 0).trans rfl; have hcz86_1 : w85.cell? ⟨gb147, 1, none⟩ = some (.string ((rd_T32 l0 x5_2).f1)) := (blk_cell BK147.out 1).trans rfl; have hcz86_2 : w85.cell? ⟨gb147, 2, none⟩ = some (.slice A146_2 ((rd_T32 l0 x5_2).f2).length c146_2) := (blk_cell BK147.out 2).trans rfl; have hcz86_3 : w85.cell? ⟨gb147, 3, none⟩ = some (.slice A146_3 ((rd_T32 l0 x5_2).f3).length c146_3) := (blk_cell BK147.out 3).trans rfl; have hcz86_4 : w85.cell? ⟨gb147, 4, none⟩ = some (.slice A146_4 ((rd_T32 l0 x5_2).f4).length c146_4) := (blk_cell BK147.out 4).trans rfl; have hfz86_0 := blk_frozen BK147.out 0; have hfz86_1 := blk_frozen BK147.out 1; have hfz86_2 := blk_frozen BK147.out 2; have hfz86_3 := blk_frozen BK147.out 3; have hfz86_4 := blk_frozen BK147.out 4) | (go_at_call 62; (with_reducible refine (ih kj17 (by have := HJ2.out; have := HK2.out; have := HJ17.out; omega) _ _ ((rd_T32 l0 x5_2).f4) (wrap64 (a1 + 1)) false _ ?side1 ?side2 A78.out).mono ?_); (case side1 => repeat (first | exact (Kd.C_below HR146_4.out HB.out) | (with_reducible refine Kd.C_alloc ?_ _) | (with_reducible refine Kd.C_drewN ?_ _) | (with_reducible refine Kd.C_drew ?_))); (case side2 => exact HC146_4.out); rintro e w87 ⟨rfl, hb⟩; have n0_ := Aside0.mk (blk_below (g := gb147) (o := .cells #[.int .i64 ((rd_T32 l0 x5_2).f0), .string ((rd_T32 l0 x5_2).f1), .slice A146_2 ((rd_T32 l0 x5_2).f2).length c146_2, .slice A146_3 ((rd_T32 l0 x5_2).f3).length c146_3, .slice A146_4 ((rd_T32 l0 x5_2).f4).length c146_4] 32 (0, 0)) (by (with_reducible repeat (first | refine blk_drewN ?_ _ | refine blk_drew ?_ | refine blk_alloc ?_ _)); exact BK147.out) hb); have n1_ := Aside0.mk (below_step (by repeat (first | (with_reducible first | exact HB.out | apply below_alloc | apply pw_below_drewN | apply below_drew1 | refine below_set ?_ GE147.out) | exact HB.out)) hb); clear BK147; clear HB; have BK147 := n0_; have HB := n1_; clear n0_ n1_; (try clear hb); (try clear hb2); (try clear hk); (try clear hi)))
                                go_ret
                                exact ⟨by first | rfl | (simp [errW_none, errW_some] <;> rfl) | (simp [*, errW_none, errW_some] <;> rfl), by repeat (first | (with_reducible first | exact HB.out | apply below_alloc | apply pw_below_drewN | apply below_drew1 | refine below_set ?_ GE147.out) | exact HB.out)⟩
                            · replace c77 := Bool.eq_false_iff.mpr c77
                              subst c77
                              have H1 : (some false) = some r := by rw [if_neg (show ¬ (false = true) by decide)] at H; exact H
                              clear H
                              have H := H1
                              clear H1
                              obtain rfl := Option.some.inj H
                              have hcz88_0 : wc.cell? ⟨gb147, 0, none⟩ = some (.int .i64 ((rd_T32 l0 x5_2).f0)) := (blk_cell BK147.out 0).trans rfl
                              have hcz88_1 : wc.cell? ⟨gb147, 1, none⟩ = some (.string ((rd_T32 l0 x5_2).f1)) := (blk_cell BK147.out 1).trans rfl
                              have hcz88_2 : wc.cell? ⟨gb147, 2, none⟩ = some (.slice A146_2 ((rd_T32 l0 x5_2).f2).length c146_2) := (blk_cell BK147.out 2).trans rfl
                              have hcz88_3 : wc.cell? ⟨gb147, 3, none⟩ = some (.slice A146_3 ((rd_T32 l0 x5_2).f3).length c146_3) := (blk_cell BK147.out 3).trans rfl
                              have hcz88_4 : wc.cell? ⟨gb147, 4, none⟩ = some (.slice A146_4 ((rd_T32 l0 x5_2).f4).length c146_4) := (blk_cell BK147.out 4).trans rfl
                              have hfz88_0 := blk_frozen BK147.out 0
                              have hfz88_1 := blk_frozen BK147.out 1
                              have hfz88_2 := blk_frozen BK147.out 2
                              have hfz88_3 := blk_frozen BK147.out 3
                              have hfz88_4 := blk_frozen BK147.out 4
                              go_wp2_with (first | (go_at_call 62; (with_reducible refine (ih kj17 (by have := HJ2.out; have := HK2.out; have := HJ17.out; omega) _ _ ((rd_T32 l0 x5_2).f3) (wrap64 (a1 + 1)) false _ ?side1 ?side2 A76.out).mono ?_); (case side1 => repeat (first | exact (Kd.C_below HR146_3.out HB.out) | (with_reducible refine Kd.C_alloc ?_ _) | (with_reducible refine Kd.C_drewN ?_ _) | (with_reducible refine Kd.C_drew ?_))); (case side2 => exact HC146_3.out); rintro e w89 ⟨rfl, hb⟩; have n0_ := Aside0.mk (blk_below (g := gb147) (o := .cells #[.int .i64 ((rd_T32 l0 x5_2).f0), .string ((rd_T32 l0 x5_2).f1), .slice A146_2 ((rd_T32 l0 x5_2).f2).length c146_2, .slice A146_3 ((rd_T32 l0 x5_2).f3).length c146_3, .slice A146_4 ((rd_T32 l0 x5_2).f4).length c146_4] 32 (0, 0)) (by (with_reducible repeat (first | refine blk_drewN ?_ _ | refine blk_drew ?_ | refine blk_alloc ?_ _)); exact BK147.out) hb); have n1_ := Aside0.mk (below_step (by repeat (first | (with_reducible first | exact HB.out | apply below_alloc | apply pw_below_drewN | apply below_drew1 | refine below_set ?_ GE147.out) | exact HB.out)) hb); clear BK147; clear HB; have BK147 := n0_; have HB := n1_; clear n0_ n1_; (try clear hb); (try clear hb2); (try clear hk); (try clear hi)))
                              go_ret
                              exact ⟨by first | rfl | (simp [errW_none, errW_some] <;> rfl) | (simp [*, errW_none, errW_some] <;> rfl), by repeat (first | (with_reducible first | exact HB.out | apply below_alloc | apply pw_below_drewN | apply below_drew1 | refine below_set ?_ GE147.out) | exact HB.out)⟩
                          · rw [if_neg c75] at H
                            have c75b0 : (((rd_T32 l0 x5_2).f0) == 3) = false := beq_eq_false_iff_ne.mpr c75
                            have c75b1 : (((rd_T32 l0 x5_2).f0) != 3) = true := bne_iff_ne.mpr c75
                            by_cases c90 : (((rd_T32 l0 x5_2).f4).length : Int) > 0
                            · rw [if_pos c90] at H
                              have c90b0 : decide (0 < (((rd_T32 l0 x5_2).f4).length : Int)) = true := decide_eq_true c90
                              have c90b1 : decide (0 < ((rd_T32 l0 x5_2).f4).length) = true := decide_eq_true (by omega)
                              clear c90
                              obtain rfl := Option.some.inj H
                              have hcz91_0 : wc.cell? ⟨gb147, 0, none⟩ = some (.int .i64 ((rd_T32 l0 x5_2).f0)) := (blk_cell BK147.out 0).trans rfl
                              have hcz91_1 : wc.cell? ⟨gb147, 1, none⟩ = some (.string ((rd_T32 l0 x5_2).f1)) := (blk_cell BK147.out 1).trans rfl
                              have hcz91_2 : wc.cell? ⟨gb147, 2, none⟩ = some (.slice A146_2 ((rd_T32 l0 x5_2).f2).length c146_2) := (blk_cell BK147.out 2).trans rfl
                              have hcz91_3 : wc.cell? ⟨gb147, 3, none⟩ = some (.slice A146_3 ((rd_T32 l0 x5_2).f3).length c146_3) := (blk_cell BK147.out 3).trans rfl
                              have hcz91_4 : wc.cell? ⟨gb147, 4, none⟩ = some (.slice A146_4 ((rd_T32 l0 x5_2).f4).length c146_4) := (blk_cell BK147.out 4).trans rfl
                              have hfz91_0 := blk_frozen BK147.out 0
                              have hfz91_1 := blk_frozen BK147.out 1
                              have hfz91_2 := blk_frozen BK147.out 2
                              have hfz91_3 := blk_frozen BK147.out 3
                              have hfz91_4 := blk_frozen BK147.out 4
                              go_wp2
                              go_ret
                              exact ⟨by first | rfl | (simp [errW_none, errW_some] <;> rfl) | (simp [*, errW_none, errW_some] <;> rfl), by repeat (first | (with_reducible first | exact HB.out | apply below_alloc | apply pw_below_drewN | apply below_drew1 | refine below_set ?_ GE147.out) | exact HB.out)⟩
                            · rw [if_neg c90] at H
                              have c90b0 : decide (0 < (((rd_T32 l0 x5_2).f4).length : Int)) = false := decide_eq_false c90
                              have c90b1 : decide (0 < ((rd_T32 l0 x5_2).f4).length) = false := decide_eq_false (by omega)
                              clear c90
                              replace H := Option.bind_eq_some_iff.mp H
                              obtain ⟨t161, A920, H⟩ := H
                              replace H : (if t161 = true then ((spandrelref18_body.f kj17 ((rd_T32 l0 x5_2).f4) (wrap64 (a1 + 1))).bind fun t162 => (if t162 = true then (spandrelref18_body.l0 kj17 l0 a1 (wrap64 (x5_2 + 1))) else (some false))) else (some false)) = some r := H
                              have A92 := Aside0.mk A920
                              clear A920
                              by_cases c93 : t161 = true
                              · subst c93
                                have H1 : ((spandrelref18_body.f kj17 ((rd_T32 l0 x5_2).f4) (wrap64 (a1 + 1))).bind fun t162 => (if t162 = true then (spandrelref18_body.l0 kj17 l0 a1 (wrap64 (x5_2 + 1))) else (some false))) = some r := by rw [if_pos rfl] at H; exact H
                                clear H
                                have H := H1
                                clear H1
                                replace H := Option.bind_eq_some_iff.mp H
                                obtain ⟨t162, A940, H⟩ := H
                                replace H : (if t162 = true then (spandrelref18_body.l0 kj17 l0 a1 (wrap64 (x5_2 + 1))) else (some false)) = some r := H
                                have A94 := Aside0.mk A940
                                clear A940
                                by_cases c95 : t162 = true
                                · subst c95
                                  have H1 : (spandrelref18_body.l0 kj17 l0 a1 (wrap64 (x5_2 + 1))) = some r := by rw [if_pos rfl] at H; exact H
                                  clear H
                                  have H := H1
                                  clear H1
                                  have H' := Aside0.mk H
                                  clear H
                                  have hcz96_0 : wc.cell? ⟨gb147, 0, none⟩ = some (.int .i64 ((rd_T32 l0 x5_2).f0)) := (blk_cell BK147.out 0).trans rfl
                                  have hcz96_1 : wc.cell? ⟨gb147, 1, none⟩ = some (.string ((rd_T32 l0 x5_2).f1)) := (blk_cell BK147.out 1).trans rfl
                                  have hcz96_2 : wc.cell? ⟨gb147, 2, none⟩ = some (.slice A146_2 ((rd_T32 l0 x5_2).f2).length c146_2) := (blk_cell BK147.out 2).trans rfl
                                  have hcz96_3 : wc.cell? ⟨gb147, 3, none⟩ = some (.slice A146_3 ((rd_T32 l0 x5_2).f3).length c146_3) := (blk_cell BK147.out 3).trans rfl
                                  have hcz96_4 : wc.cell? ⟨gb147, 4, none⟩ = some (.slice A146_4 ((rd_T32 l0 x5_2).f4).length c146_4) := (blk_cell BK147.out 4).trans rfl
                                  have hfz96_0 := blk_frozen BK147.out 0
                                  have hfz96_1 := blk_frozen BK147.out 1
                                  have hfz96_2 := blk_frozen BK147.out 2
                                  have hfz96_3 := blk_frozen BK147.out 3
                                  have hfz96_4 := blk_frozen BK147.out 4
                                  go_wp2_with (first | (go_at_call 62; (with_reducible refine (ih kj17 (by have := HJ2.out; have := HK2.out; have := HJ17.out; omega) _ _ ((rd_T32 l0 x5_2).f3) (wrap64 (a1 + 1)) true _ ?side1 ?side2 A92.out).mono ?_); (case side1 => repeat (first | exact (Kd.C_below HR146_3.out HB.out) | (with_reducible refine Kd.C_alloc ?_ _) | (with_reducible refine Kd.C_drewN ?_ _) | (with_reducible refine Kd.C_drew ?_))); (case side2 => exact HC146_3.out); rintro e w97 ⟨rfl, hb⟩; have n0_ := Aside0.mk (blk_below (g := gb147) (o := .cells #[.int .i64 ((rd_T32 l0 x5_2).f0), .string ((rd_T32 l0 x5_2).f1), .slice A146_2 ((rd_T32 l0 x5_2).f2).length c146_2, .slice A146_3 ((rd_T32 l0 x5_2).f3).length c146_3, .slice A146_4 ((rd_T32 l0 x5_2).f4).length c146_4] 32 (0, 0)) (by (with_reducible repeat (first | refine blk_drewN ?_ _ | refine blk_drew ?_ | refine blk_alloc ?_ _)); exact BK147.out) hb); have n1_ := Aside0.mk (below_step (by repeat (first | (with_reducible first | exact HB.out | apply below_alloc | apply pw_below_drewN | apply below_drew1 | refine below_set ?_ GE147.out) | exact HB.out)) hb); clear BK147; clear HB; have BK147 := n0_; have HB := n1_; clear n0_ n1_; (try clear hb); (try clear hb2); (try clear hk); (try clear hi); have hcz98_0 : w97.cell? ⟨gb147, 0, none⟩ = some (.int .i64 ((rd_T32 l0 x5_2).f0)) := (blk_cell BK147.out 0).trans rfl; have hcz98_1 : w97.cell? ⟨gb147, 1, none⟩ = some (.string ((rd_T32 l0 x5_2).f1)) := (blk_cell BK147.out 1).trans rfl; have hcz98_2 : w97.cell? ⟨gb147, 2, none⟩ = some (.slice A146_2 ((rd_T32 l0 x5_2).f2).length c146_2) := (blk_cell BK147.out 2).trans rfl; have hcz98_3 : w97.cell? ⟨gb147, 3, none⟩ = some (.slice A146_3 ((rd_T32 l0 x5_2).f3).length c146_3) := (blk_cell BK147.out 3).trans rfl; have hcz98_4 : w97.cell? ⟨gb147, 4, none⟩ = some (.slice A146_4 ((rd_T32 l0 x5_2).f4).length c146_4) := (blk_cell BK147.out 4).trans rfl; have hfz98_0 := blk_frozen BK147.out 0; have hfz98_1 := blk_frozen BK147.out 1; have hfz98_2 := blk_frozen BK147.out 2; have hfz98_3 := blk_frozen BK147.out 3; have hfz98_4 := blk_frozen BK147.out 4) | (go_at_call 62; (with_reducible refine (ih kj17 (by have := HJ2.out; have := HK2.out; have := HJ17.out; omega) _ _ ((rd_T32 l0 x5_2).f4) (wrap64 (a1 + 1)) true _ ?side1 ?side2 A94.out).mono ?_); (case side1 => repeat (first | exact (Kd.C_below HR146_4.out HB.out) | (with_reducible refine Kd.C_alloc ?_ _) | (with_reducible refine Kd.C_drewN ?_ _) | (with_reducible refine Kd.C_drew ?_))); (case side2 => exact HC146_4.out); rintro e w99 ⟨rfl, hb⟩; have n0_ := Aside0.mk (blk_below (g := gb147) (o := .cells #[.int .i64 ((rd_T32 l0 x5_2).f0), .string ((rd_T32 l0 x5_2).f1), .slice A146_2 ((rd_T32 l0 x5_2).f2).length c146_2, .slice A146_3 ((rd_T32 l0 x5_2).f3).length c146_3, .slice A146_4 ((rd_T32 l0 x5_2).f4).length c146_4] 32 (0, 0)) (by (with_reducible repeat (first | refine blk_drewN ?_ _ | refine blk_drew ?_ | refine blk_alloc ?_ _)); exact BK147.out) hb); have n1_ := Aside0.mk (below_step (by repeat (first | (with_reducible first | exact HB.out | apply below_alloc | apply pw_below_drewN | apply below_drew1 | refine below_set ?_ GE147.out) | exact HB.out)) hb); clear BK147; clear HB; have BK147 := n0_; have HB := n1_; clear n0_ n1_; (try clear hb); (try clear hb2); (try clear hk); (try clear hi)))
                                  go_roundg kj17
                                  case measure => have := HJ2.out; have := HK2.out; have := HJ17.out; omega
                                  case rel => exact ⟨(wrap64 (x5_2 + 1)), (by first | rfl | (simp; done) | (simp [*]; done)), H', ⟨by have := HJ2.out; have := HK2.out; have := HJ17.out; omega⟩, ⟨by repeat (first | (with_reducible first | exact HB.out | apply below_alloc | apply pw_below_drewN | apply below_drew1 | refine below_set ?_ GE147.out) | exact HB.out)⟩⟩
                                · replace c95 := Bool.eq_false_iff.mpr c95
                                  subst c95
                                  have H1 : (some false) = some r := by rw [if_neg (show ¬ (false = true) by decide)] at H; exact H
                                  clear H
                                  have H := H1
                                  clear H1
                                  obtain rfl := Option.some.inj H
                                  have hcz100_0 : wc.cell? ⟨gb147, 0, none⟩ = some (.int .i64 ((rd_T32 l0 x5_2).f0)) := (blk_cell BK147.out 0).trans rfl
                                  have hcz100_1 : wc.cell? ⟨gb147, 1, none⟩ = some (.string ((rd_T32 l0 x5_2).f1)) := (blk_cell BK147.out 1).trans rfl
                                  have hcz100_2 : wc.cell? ⟨gb147, 2, none⟩ = some (.slice A146_2 ((rd_T32 l0 x5_2).f2).length c146_2) := (blk_cell BK147.out 2).trans rfl
                                  have hcz100_3 : wc.cell? ⟨gb147, 3, none⟩ = some (.slice A146_3 ((rd_T32 l0 x5_2).f3).length c146_3) := (blk_cell BK147.out 3).trans rfl
                                  have hcz100_4 : wc.cell? ⟨gb147, 4, none⟩ = some (.slice A146_4 ((rd_T32 l0 x5_2).f4).length c146_4) := (blk_cell BK147.out 4).trans rfl
                                  have hfz100_0 := blk_frozen BK147.out 0
                                  have hfz100_1 := blk_frozen BK147.out 1
                                  have hfz100_2 := blk_frozen BK147.out 2
                                  have hfz100_3 := blk_frozen BK147.out 3
                                  have hfz100_4 := blk_frozen BK147.out 4
                                  go_wp2_with (first | (go_at_call 62; (with_reducible refine (ih kj17 (by have := HJ2.out; have := HK2.out; have := HJ17.out; omega) _ _ ((rd_T32 l0 x5_2).f3) (wrap64 (a1 + 1)) true _ ?side1 ?side2 A92.out).mono ?_); (case side1 => repeat (first | exact (Kd.C_below HR146_3.out HB.out) | (with_reducible refine Kd.C_alloc ?_ _) | (with_reducible refine Kd.C_drewN ?_ _) | (with_reducible refine Kd.C_drew ?_))); (case side2 => exact HC146_3.out); rintro e w101 ⟨rfl, hb⟩; have n0_ := Aside0.mk (blk_below (g := gb147) (o := .cells #[.int .i64 ((rd_T32 l0 x5_2).f0), .string ((rd_T32 l0 x5_2).f1), .slice A146_2 ((rd_T32 l0 x5_2).f2).length c146_2, .slice A146_3 ((rd_T32 l0 x5_2).f3).length c146_3, .slice A146_4 ((rd_T32 l0 x5_2).f4).length c146_4] 32 (0, 0)) (by (with_reducible repeat (first | refine blk_drewN ?_ _ | refine blk_drew ?_ | refine blk_alloc ?_ _)); exact BK147.out) hb); have n1_ := Aside0.mk (below_step (by repeat (first | (with_reducible first | exact HB.out | apply below_alloc | apply pw_below_drewN | apply below_drew1 | refine below_set ?_ GE147.out) | exact HB.out)) hb); clear BK147; clear HB; have BK147 := n0_; have HB := n1_; clear n0_ n1_; (try clear hb); (try clear hb2); (try clear hk); (try clear hi); have hcz102_0 : w101.cell? ⟨gb147, 0, none⟩ = some (.int .i64 ((rd_T32 l0 x5_2).f0)) := (blk_cell BK147.out 0).trans rfl; have hcz102_1 : w101.cell? ⟨gb147, 1, none⟩ = some (.string ((rd_T32 l0 x5_2).f1)) := (blk_cell BK147.out 1).trans rfl; have hcz102_2 : w101.cell? ⟨gb147, 2, none⟩ = some (.slice A146_2 ((rd_T32 l0 x5_2).f2).length c146_2) := (blk_cell BK147.out 2).trans rfl; have hcz102_3 : w101.cell? ⟨gb147, 3, none⟩ = some (.slice A146_3 ((rd_T32 l0 x5_2).f3).length c146_3) := (blk_cell BK147.out 3).trans rfl; have hcz102_4 : w101.cell? ⟨gb147, 4, none⟩ = some (.slice A146_4 ((rd_T32 l0 x5_2).f4).length c146_4) := (blk_cell BK147.out 4).trans rfl; have hfz102_0 := blk_frozen BK147.out 0; have hfz102_1 := blk_frozen BK147.out 1; have hfz102_2 := blk_frozen BK147.out 2; have hfz102_3 := blk_frozen BK147.out 3; have hfz102_4 := blk_frozen BK147.out 4) | (go_at_call 62; (with_reducible refine (ih kj17 (by have := HJ2.out; have := HK2.out; have := HJ17.out; omega) _ _ ((rd_T32 l0 x5_2).f4) (wrap64 (a1 + 1)) false _ ?side1 ?side2 A94.out).mono ?_); (case side1 => repeat (first | exact (Kd.C_below HR146_4.out HB.out) | (with_reducible refine Kd.C_alloc ?_ _) | (with_reducible refine Kd.C_drewN ?_ _) | (with_reducible refine Kd.C_drew ?_))); (case side2 => exact HC146_4.out); rintro e w103 ⟨rfl, hb⟩; have n0_ := Aside0.mk (blk_below (g := gb147) (o := .cells #[.int .i64 ((rd_T32 l0 x5_2).f0), .string ((rd_T32 l0 x5_2).f1), .slice A146_2 ((rd_T32 l0 x5_2).f2).length c146_2, .slice A146_3 ((rd_T32 l0 x5_2).f3).length c146_3, .slice A146_4 ((rd_T32 l0 x5_2).f4).length c146_4] 32 (0, 0)) (by (with_reducible repeat (first | refine blk_drewN ?_ _ | refine blk_drew ?_ | refine blk_alloc ?_ _)); exact BK147.out) hb); have n1_ := Aside0.mk (below_step (by repeat (first | (with_reducible first | exact HB.out | apply below_alloc | apply pw_below_drewN | apply below_drew1 | refine below_set ?_ GE147.out) | exact HB.out)) hb); clear BK147; clear HB; have BK147 := n0_; have HB := n1_; clear n0_ n1_; (try clear hb); (try clear hb2); (try clear hk); (try clear hi)))
                                  go_ret
                                  exact ⟨by first | rfl | (simp [errW_none, errW_some] <;> rfl) | (simp [*, errW_none, errW_some] <;> rfl), by repeat (first | (with_reducible first | exact HB.out | apply below_alloc | apply pw_below_drewN | apply below_drew1 | refine below_set ?_ GE147.out) | exact HB.out)⟩
                              · replace c93 := Bool.eq_false_iff.mpr c93
                                subst c93
                                have H1 : (some false) = some r := by rw [if_neg (show ¬ (false = true) by decide)] at H; exact H
                                clear H
                                have H := H1
                                clear H1
                                obtain rfl := Option.some.inj H
                                have hcz104_0 : wc.cell? ⟨gb147, 0, none⟩ = some (.int .i64 ((rd_T32 l0 x5_2).f0)) := (blk_cell BK147.out 0).trans rfl
                                have hcz104_1 : wc.cell? ⟨gb147, 1, none⟩ = some (.string ((rd_T32 l0 x5_2).f1)) := (blk_cell BK147.out 1).trans rfl
                                have hcz104_2 : wc.cell? ⟨gb147, 2, none⟩ = some (.slice A146_2 ((rd_T32 l0 x5_2).f2).length c146_2) := (blk_cell BK147.out 2).trans rfl
                                have hcz104_3 : wc.cell? ⟨gb147, 3, none⟩ = some (.slice A146_3 ((rd_T32 l0 x5_2).f3).length c146_3) := (blk_cell BK147.out 3).trans rfl
                                have hcz104_4 : wc.cell? ⟨gb147, 4, none⟩ = some (.slice A146_4 ((rd_T32 l0 x5_2).f4).length c146_4) := (blk_cell BK147.out 4).trans rfl
                                have hfz104_0 := blk_frozen BK147.out 0
                                have hfz104_1 := blk_frozen BK147.out 1
                                have hfz104_2 := blk_frozen BK147.out 2
                                have hfz104_3 := blk_frozen BK147.out 3
                                have hfz104_4 := blk_frozen BK147.out 4
                                go_wp2_with (first | (go_at_call 62; (with_reducible refine (ih kj17 (by have := HJ2.out; have := HK2.out; have := HJ17.out; omega) _ _ ((rd_T32 l0 x5_2).f3) (wrap64 (a1 + 1)) false _ ?side1 ?side2 A92.out).mono ?_); (case side1 => repeat (first | exact (Kd.C_below HR146_3.out HB.out) | (with_reducible refine Kd.C_alloc ?_ _) | (with_reducible refine Kd.C_drewN ?_ _) | (with_reducible refine Kd.C_drew ?_))); (case side2 => exact HC146_3.out); rintro e w105 ⟨rfl, hb⟩; have n0_ := Aside0.mk (blk_below (g := gb147) (o := .cells #[.int .i64 ((rd_T32 l0 x5_2).f0), .string ((rd_T32 l0 x5_2).f1), .slice A146_2 ((rd_T32 l0 x5_2).f2).length c146_2, .slice A146_3 ((rd_T32 l0 x5_2).f3).length c146_3, .slice A146_4 ((rd_T32 l0 x5_2).f4).length c146_4] 32 (0, 0)) (by (with_reducible repeat (first | refine blk_drewN ?_ _ | refine blk_drew ?_ | refine blk_alloc ?_ _)); exact BK147.out) hb); have n1_ := Aside0.mk (below_step (by repeat (first | (with_reducible first | exact HB.out | apply below_alloc | apply pw_below_drewN | apply below_drew1 | refine below_set ?_ GE147.out) | exact HB.out)) hb); clear BK147; clear HB; have BK147 := n0_; have HB := n1_; clear n0_ n1_; (try clear hb); (try clear hb2); (try clear hk); (try clear hi)))
                                go_ret
                                exact ⟨by first | rfl | (simp [errW_none, errW_some] <;> rfl) | (simp [*, errW_none, errW_some] <;> rfl), by repeat (first | (with_reducible first | exact HB.out | apply below_alloc | apply pw_below_drewN | apply below_drew1 | refine below_set ?_ GE147.out) | exact HB.out)⟩
              · rw [if_neg c7] at H
                exact absurd H (by simp)
            · rw [if_neg c6] at H
              have c6b0 : decide (x5_2 < (l0.length : Int)) = false := decide_eq_false c6
              clear c6
              obtain rfl := Option.some.inj H
              go_wp2
              go_ret
              exact ⟨by first | rfl | (simp [errW_none, errW_some] <;> rfl) | (simp [*, errW_none, errW_some] <;> rfl), by repeat (first | (with_reducible first | exact HB.out | apply below_alloc | apply pw_below_drewN | apply below_drew1) | exact HB.out)⟩

end Go.Proofs.Ytbjddomocggjmaa.PFragcheckChecks
