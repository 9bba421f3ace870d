-- PRINTED BY print.sh 35421559b90ae4d0a3588c463048766b98c2df88dd9212a6774a882060cdf62d: not written by this session
import Derived.Test.YtbjddomocggjmaaPFragcheckChecksx0
namespace Go.Proofs.Ytbjddomocggjmaa.PFragcheckChecks
open Go.RowKit Go.Proofs.YtbjddomocggjmaaW.PrintWords Go.Proofs.YtbjddomocggjmaaW.PrintLast Go.Proofs.YtbjddomocggjmaaW.PrintMore
attribute [local go_sem] max2_int min2_int max_two min_two max_three min_three max_four min_four   -- for this text's walks alone
set_option linter.unusedVariables false
set_option linter.unusedSimpArgs false

-- NOT PRINTED: function 38 (api_Func_38)

-- NOT PRINTED: function 30 (api_Func_30)

-- NOT PRINTED: function 16 (frag_Shaped)

-- NOT PRINTED: function 12 (fragcheck_Check)

-- NOT PRINTED: function 14 (fragcheck_Find)

-- NOT PRINTED: function 10 (spandrellaw20_awake)

/-! ### spandrelref18_few: function 28 -/
mutual
def spandrelref18_few.l0 : Nat → List (S32) → Int → Int → Option (Int)
  | 0, _, _, _ => none
  | k + 1, x0, x1, x5 => if x5 < (x0.length : Int) then (spandrelref18_few.j1 k x0 x1 x5 (decide (x1 ≥ 0))) else (spandrelref18_few.j1 k x0 x1 x5 false)
def spandrelref18_few.j1 : Nat → List (S32) → Int → Int → Bool → Option (Int)
  | 0, _, _, _, _ => none
  | k + 1, x0, x1, x5, x14 => if x14 = true then (if 0 ≤ x5 then (if x5 < (x0.length : Int) then (spandrelref18_few.l1 k x0 (wrap64 ((wrap64 ((wrap64 (x1 - 1)) - (((rd_T32 x0 x5).f2).length : Int))) - (((rd_T32 x0 x5).f1).size : Int))) x5 0) else (none)) else (none)) else (some x1)
def spandrelref18_few.l1 : Nat → List (S32) → Int → Int → Int → Option (Int)
  | 0, _, _, _, _ => none
  | k + 1, x0, x1, x5, x6 => if 0 ≤ x5 then (if x5 < (x0.length : Int) then (if x6 < (((rd_T32 x0 x5).f2).length : Int) then (if x1 ≥ 0 then (if 0 ≤ x6 then (spandrelref18_few.l1 k x0 (wrap64 (x1 - (((rd_T73 ((rd_T32 x0 x5).f2) x6).f2).size : Int))) x5 (wrap64 (x6 + 1))) else (none)) else ((spandrelref18_few.f k ((rd_T32 x0 x5).f3) x1).bind fun t116 => ((spandrelref18_few.f k ((rd_T32 x0 x5).f4) t116).bind fun t118 => (spandrelref18_few.l0 k x0 t118 (wrap64 (x5 + 1)))))) else ((spandrelref18_few.f k ((rd_T32 x0 x5).f3) x1).bind fun t120 => ((spandrelref18_few.f k ((rd_T32 x0 x5).f4) t120).bind fun t122 => (spandrelref18_few.l0 k x0 t122 (wrap64 (x5 + 1)))))) else (none)) else (none)
def spandrelref18_few.f : Nat → List (S32) → Int → Option (Int)
  | 0, _, _ => none
  | k + 1, l0, a1 => spandrelref18_few.l0 k l0 a1 0
end
theorem spandrelref18_few.mono_l : ∀ k, (∀ y0 y1, LeO (spandrelref18_few.f k y0 y1) (spandrelref18_few.f (k + 1) y0 y1)) ∧ (∀ y0 y1 y2, LeO (spandrelref18_few.l0 k y0 y1 y2) (spandrelref18_few.l0 (k + 1) y0 y1 y2)) ∧ (∀ y0 y1 y2 y3, LeO (spandrelref18_few.j1 k y0 y1 y2 y3) (spandrelref18_few.j1 (k + 1) y0 y1 y2 y3)) ∧ (∀ y0 y1 y2 y3, LeO (spandrelref18_few.l1 k y0 y1 y2 y3) (spandrelref18_few.l1 (k + 1) y0 y1 y2 y3))
  | 0 => ⟨fun _ _ r h => by simp [spandrelref18_few.f] at h, fun _ _ _ r h => by simp [spandrelref18_few.l0] at h, fun _ _ _ _ r h => by simp [spandrelref18_few.j1] at h, fun _ _ _ _ r h => by simp [spandrelref18_few.l1] at h⟩
  | k + 1 => by
    obtain ⟨ih0, ih1, ih2, ih3⟩ := spandrelref18_few.mono_l k
    refine ⟨?_, ?_, ?_, ?_⟩
    · intro y0 y1
      unfold spandrelref18_few.f
      repeat' first
      | (with_reducible exact ih0 _ _)
      | (with_reducible exact ih1 _ _ _)
      | (with_reducible exact ih2 _ _ _ _)
      | (with_reducible exact ih3 _ _ _ _)
      | (with_reducible exact LeO.refl _)
      | (with_reducible exact LeO.none _)
      | (with_reducible refine LeO.ite ?_ ?_)
      | (with_reducible refine LeO.bind ?_ (fun _ => ?_))
      | exact ih0 _ _
      | exact ih1 _ _ _
      | exact ih2 _ _ _ _
      | exact ih3 _ _ _ _
      | exact LeO.none _
      | refine LeO.ite ?_ ?_
      | refine LeO.bind ?_ (fun _ => ?_)
    · intro y0 y1 y2
      unfold spandrelref18_few.l0
      repeat' first
      | (with_reducible exact ih0 _ _)
      | (with_reducible exact ih1 _ _ _)
      | (with_reducible exact ih2 _ _ _ _)
      | (with_reducible exact ih3 _ _ _ _)
      | (with_reducible exact LeO.refl _)
      | (with_reducible exact LeO.none _)
      | (with_reducible refine LeO.ite ?_ ?_)
      | (with_reducible refine LeO.bind ?_ (fun _ => ?_))
      | exact ih0 _ _
      | exact ih1 _ _ _
      | exact ih2 _ _ _ _
      | exact ih3 _ _ _ _
      | exact LeO.none _
      | refine LeO.ite ?_ ?_
      | refine LeO.bind ?_ (fun _ => ?_)
    · intro y0 y1 y2 y3
      unfold spandrelref18_few.j1
      repeat' first
      | (with_reducible exact ih0 _ _)
      | (with_reducible exact ih1 _ _ _)
      | (with_reducible exact ih2 _ _ _ _)
      | (with_reducible exact ih3 _ _ _ _)
      | (with_reducible exact LeO.refl _)
      | (with_reducible exact LeO.none _)
      | (with_reducible refine LeO.ite ?_ ?_)
      | (with_reducible refine LeO.bind ?_ (fun _ => ?_))
      | exact ih0 _ _
      | exact ih1 _ _ _
      | exact ih2 _ _ _ _
      | exact ih3 _ _ _ _
      | exact LeO.none _
      | refine LeO.ite ?_ ?_
      | refine LeO.bind ?_ (fun _ => ?_)
    · intro y0 y1 y2 y3
      unfold spandrelref18_few.l1
      repeat' first
      | (with_reducible exact ih0 _ _)
      | (with_reducible exact ih1 _ _ _)
      | (with_reducible exact ih2 _ _ _ _)
      | (with_reducible exact ih3 _ _ _ _)
      | (with_reducible exact LeO.refl _)
      | (with_reducible exact LeO.none _)
      | (with_reducible refine LeO.ite ?_ ?_)
      | (with_reducible refine LeO.bind ?_ (fun _ => ?_))
      | exact ih0 _ _
      | exact ih1 _ _ _
      | exact ih2 _ _ _ _
      | exact ih3 _ _ _ _
      | exact LeO.none _
      | refine LeO.ite ?_ ?_
      | refine LeO.bind ?_ (fun _ => ?_)
theorem spandrelref18_few.mono : ∀ a0 a1 k, LeO (spandrelref18_few.f k a0 a1) (spandrelref18_few.f (k + 1) a0 a1) := by
  intro a0 a1 k
  obtain ⟨ih0, ih1, ih2, ih3⟩ := spandrelref18_few.mono_l k
  exact ih0 a0 a1
set_option maxHeartbeats 8000000 in
set_option maxRecDepth 100000 in
theorem spandrelref18_few.calls (k : Nat) : ∀ (A0 : Option Addr) (c0 : Nat) (l0 : List (S32)) (a1 : Int) (r : Int) (w : World) (hr0 : Kd.C k32 w A0 l0.length l0) (hc0 : l0.length ≤ c0) (h : spandrelref18_few.f k l0 a1 = some r),
    Calls Try.prog 28 #[.slice A0 l0.length c0, .int .i64 a1] w fun e w' => e = .returned (.int .i64 r) ∧ Drawn0 w w' := by
  induction k using Nat.strongRecOn with
  | _ k ih =>
  intro A0 c0 l0 a1 r w hr0 hc0 h
  cases k with
  | zero => exact absurd h (by simp [spandrelref18_few.f])
  | succ k =>
  simp only [spandrelref18_few.f] at h
  have HR0 := Aside0.mk hr0
  have HC0 := Aside0.mk hc0
  clear hr0 hc0
  have H : (spandrelref18_few.l0 k l0 a1 0) = some r := h
  clear h
  have H' := Aside0.mk H
  clear H
  go_enter Try.func28, Try.ntmps28
  go_wp2
  repeat (go_quiet (fail); try go_wp2)
  go_loopg [1, 5] k (fun kq v1 v5 w' => ∃ (x1_1 : Int) (x5_1 : Int), v1 = .int .i64 x1_1 ∧ v5 = .int .i64 x5_1 ∧ Aside0 (spandrelref18_few.l0 kq l0 x1_1 x5_1 = some r) ∧ Aside0 (kq ≤ k) ∧ Drawn0 w w')
  case atStart => exact ⟨(a1), (0), (by first | rfl | (simp; done) | (simp [*]; done)), (by first | rfl | (simp; done) | (simp [*]; done)), H', ⟨Nat.le_refl _⟩, by repeat (first | exact Drawn0.refl _ | apply Drawn0.step)⟩
  case round =>
    clear H'
    try clear c2
    try clear p2
    obtain ⟨x1_1, x5_1, rfl, rfl, HA, HK1, ⟨m1, rfl⟩⟩ := hrel
    cases gk with
    | zero => exact absurd HA.out (by simp [spandrelref18_few.l0])
    | succ k1 =>
      have H := HA.out
      clear HA
      simp only [spandrelref18_few.l0] at H
      have HC3 := Aside0.mk H
      clear H
      go_upto_region 2 with (fail)
      repeat (go_quiet (fail); go_upto_region 2 with (fail))
      go_cut [14] (fun v14 wc => ∃ (kq : Nat) (x14_2 : Bool), v14 = .bool x14_2 ∧ Aside0 (spandrelref18_few.j1 kq l0 x1_1 x5_1 x14_2 = some r) ∧ Aside0 (kq ≤ k1) ∧ Drawn0 w wc)
      case first =>
        have H := HC3.out
        clear HC3
        by_cases c4 : x5_1 < (l0.length : Int)
        · rw [if_pos c4] at H
          have c4b0 : decide (x5_1 < (l0.length : Int)) = true := decide_eq_true c4
          clear c4
          (first | rw [c4b0] | (simp only [i64_w, i32_w]; rw [c4b0]) | skip)
          have H' := Aside0.mk H
          clear H
          go_wp2
          repeat (go_quiet (fail); try go_wp2)
          go_meet
          case rel => exact ⟨_, (decide (x1_1 ≥ 0)), (by first | rfl | (simp; done) | (simp [*]; done)), H', ⟨by have := HK1.out; first | omega | exact Nat.le_refl _⟩, by repeat (first | exact Drawn0.refl _ | apply Drawn0.step)⟩
        · rw [if_neg c4] at H
          have c4b0 : decide (x5_1 < (l0.length : Int)) = false := decide_eq_false c4
          clear c4
          (first | rw [c4b0] | (simp only [i64_w, i32_w]; rw [c4b0]) | skip)
          have H' := Aside0.mk H
          clear H
          go_wp2
          repeat (go_quiet (fail); try go_wp2)
          go_meet
          case rel => exact ⟨_, (false), (by first | rfl | (simp; done) | (simp [*]; done)), H', ⟨by have := HK1.out; first | omega | exact Nat.le_refl _⟩, by repeat (first | exact Drawn0.refl _ | apply Drawn0.step)⟩
      case rest =>
        clear HC3
        try clear c2
        try clear p2
        try clear c4
        try clear c4b0
        try clear p2
        obtain ⟨kq, x14_2, rfl, HA, HJ2, ⟨mc2, rfl⟩⟩ := hcut
        cases kq with
        | zero => exact absurd HA.out (by simp [spandrelref18_few.j1])
        | succ kj2 =>
          have H := HA.out
          clear HA
          simp only [spandrelref18_few.j1] at H
          by_cases c5 : x14_2 = true
          · subst c5
            have H1 : (if 0 ≤ x5_1 then (if x5_1 < (l0.length : Int) then (spandrelref18_few.l1 kj2 l0 (wrap64 ((wrap64 ((wrap64 (x1_1 - 1)) - (((rd_T32 l0 x5_1).f2).length : Int))) - (((rd_T32 l0 x5_1).f1).size : Int))) x5_1 0) else (none)) else (none)) = some r := by rw [if_pos rfl] at H; exact H
            clear H
            have H := H1
            clear H1
            by_cases c6 : 0 ≤ x5_1
            · rw [if_pos c6] at H
              have c6b0 : decide (0 ≤ x5_1) = true := decide_eq_true c6
              clear c6
              by_cases c7 : x5_1 < (l0.length : Int)
              · rw [if_pos c7] at H
                have c7b0 : decide (x5_1 < (l0.length : Int)) = true := decide_eq_true c7
                clear c7
                have H' := Aside0.mk H
                clear H
                have p110 : 0 ≤ (x5_1 : Int) := of_decide_eq_true (by first | (with_reducible assumption) | assumption)
                have q110 : x5_1 < (l0.length : Int) := of_decide_eq_true (by first | (with_reducible assumption) | assumption)
                obtain ⟨ad110, A110_2, c110_2, A110_3, c110_3, A110_4, c110_4, e110, hx110_0, hx110_1, hx110_2, hx110_3, hx110_4, hl110_2, hi110_2, hl110_3, hi110_3, hl110_4, hi110_4⟩ := at_T32 HR0.out x5_1 p110 q110
                cases e110
                have HR110_2 := Aside0.mk hi110_2
                have HC110_2 := Aside0.mk hl110_2
                clear hi110_2 hl110_2
                have HR110_3 := Aside0.mk hi110_3
                have HC110_3 := Aside0.mk hl110_3
                clear hi110_3 hl110_3
                have HR110_4 := Aside0.mk hi110_4
                have HC110_4 := Aside0.mk hl110_4
                clear hi110_4 hl110_4
                replace p110 := eq_true p110
                replace q110 := eq_true q110
                have p111 : 0 ≤ (x5_1 : Int) := of_decide_eq_true (by first | (with_reducible assumption) | assumption)
                have q111 : x5_1 < (l0.length : Int) := of_decide_eq_true (by first | (with_reducible assumption) | assumption)
                obtain ⟨ad111, A111_2, c111_2, A111_3, c111_3, A111_4, c111_4, e111, hx111_0, hx111_1, hx111_2, hx111_3, hx111_4, hl111_2, hi111_2, hl111_3, hi111_3, hl111_4, hi111_4⟩ := at_T32 HR0.out x5_1 p111 q111
                obtain rfl : ad110 = ad111 := (by injection e111)
                have HR111_2 := Aside0.mk hi111_2
                have HC111_2 := Aside0.mk hl111_2
                clear hi111_2 hl111_2
                have HR111_3 := Aside0.mk hi111_3
                have HC111_3 := Aside0.mk hl111_3
                clear hi111_3 hl111_3
                have HR111_4 := Aside0.mk hi111_4
                have HC111_4 := Aside0.mk hl111_4
                clear hi111_4 hl111_4
                replace p111 := eq_true p111
                replace q111 := eq_true q111
                have ea_ := Option.some.inj (hx110_2.symm.trans hx111_2)
                injection ea_ with ea_ en_ ec_
                subst ea_
                subst ec_
                clear en_
                have ea_ := Option.some.inj (hx110_3.symm.trans hx111_3)
                injection ea_ with ea_ en_ ec_
                subst ea_
                subst ec_
                clear en_
                have ea_ := Option.some.inj (hx110_4.symm.trans hx111_4)
                injection ea_ with ea_ en_ ec_
                subst ea_
                subst ec_
                clear en_
                go_wp2
                repeat (go_quiet (fail); try go_wp2)
                go_loopg [1, 6] kj2 (fun kq v1 v6 w' => ∃ (x1_3 : Int) (x6_3 : Int), v1 = .int .i64 x1_3 ∧ v6 = .int .i64 x6_3 ∧ Aside0 (spandrelref18_few.l1 kq l0 x1_3 x5_1 x6_3 = some r) ∧ Aside0 (kq ≤ kj2) ∧ Drawn0 w w')
                case atStart => exact ⟨(wrap64 ((wrap64 ((wrap64 (x1_1 - 1)) - (((rd_T32 l0 x5_1).f2).length : Int))) - (((rd_T32 l0 x5_1).f1).size : Int))), (0), (by first | rfl | (simp; done) | (simp [*]; done)), (by first | rfl | (simp; done) | (simp [*]; done)), H', ⟨Nat.le_refl _⟩, by repeat (first | exact Drawn0.refl _ | apply Drawn0.step)⟩
                case round =>
                  clear H'
                  try clear c1
                  try clear p1
                  try clear q1
                  try clear hx1
                  try clear c2
                  try clear p2
                  try clear c4
                  try clear c4b0
                  try clear c5
                  try clear c6
                  try clear c6b0
                  try clear p6
                  try clear c7
                  try clear c7b0
                  try clear hx110_0
                  try clear hx110_1
                  try clear hx110_2
                  try clear hx110_3
                  try clear hx110_4
                  try clear hx111_0
                  try clear hx111_1
                  try clear hx111_2
                  try clear hx111_3
                  try clear hx111_4
                  try clear p110
                  try clear p111
                  try clear p2
                  try clear q110
                  try clear q111
                  obtain ⟨x1_3, x6_3, rfl, rfl, HA, HK3, ⟨m3, rfl⟩⟩ := hrel
                  cases gk with
                  | zero => exact absurd HA.out (by simp [spandrelref18_few.l1])
                  | succ k3 =>
                    have H := HA.out
                    clear HA
                    simp only [spandrelref18_few.l1] at H
                    by_cases c8 : 0 ≤ x5_1
                    · rw [if_pos c8] at H
                      have c8b0 : decide (0 ≤ x5_1) = true := decide_eq_true c8
                      clear c8
                      by_cases c9 : x5_1 < (l0.length : Int)
                      · rw [if_pos c9] at H
                        have c9b0 : decide (x5_1 < (l0.length : Int)) = true := decide_eq_true c9
                        clear c9
                        by_cases c10 : x6_3 < (((rd_T32 l0 x5_1).f2).length : Int)
                        · rw [if_pos c10] at H
                          have c10b0 : decide (x6_3 < (((rd_T32 l0 x5_1).f2).length : Int)) = true := decide_eq_true c10
                          clear c10
                          by_cases c11 : x1_3 ≥ 0
                          · rw [if_pos c11] at H
                            have c11b0 : decide (0 ≤ x1_3) = true := decide_eq_true c11
                            clear c11
                            by_cases c12 : 0 ≤ x6_3
                            · rw [if_pos c12] at H
                              have c12b0 : decide (0 ≤ x6_3) = true := decide_eq_true c12
                              clear c12
                              have H' := Aside0.mk H
                              clear H
                              have p112 : 0 ≤ (x5_1 : Int) := of_decide_eq_true (by first | (with_reducible assumption) | assumption)
                              have q112 : x5_1 < (l0.length : Int) := of_decide_eq_true (by first | (with_reducible assumption) | assumption)
                              obtain ⟨ad112, A112_2, c112_2, A112_3, c112_3, A112_4, c112_4, e112, hx112_0, hx112_1, hx112_2, hx112_3, hx112_4, hl112_2, hi112_2, hl112_3, hi112_3, hl112_4, hi112_4⟩ := at_T32 HR0.out x5_1 p112 q112
                              obtain rfl : ad110 = ad112 := (by injection e112)
                              have HR112_2 := Aside0.mk hi112_2
                              have HC112_2 := Aside0.mk hl112_2
                              clear hi112_2 hl112_2
                              have HR112_3 := Aside0.mk hi112_3
                              have HC112_3 := Aside0.mk hl112_3
                              clear hi112_3 hl112_3
                              have HR112_4 := Aside0.mk hi112_4
                              have HC112_4 := Aside0.mk hl112_4
                              clear hi112_4 hl112_4
                              replace p112 := eq_true p112
                              replace q112 := eq_true q112
                              have p113 : 0 ≤ (x5_1 : Int) := of_decide_eq_true (by first | (with_reducible assumption) | assumption)
                              have q113 : x5_1 < (l0.length : Int) := of_decide_eq_true (by first | (with_reducible assumption) | assumption)
                              obtain ⟨ad113, A113_2, c113_2, A113_3, c113_3, A113_4, c113_4, e113, hx113_0, hx113_1, hx113_2, hx113_3, hx113_4, hl113_2, hi113_2, hl113_3, hi113_3, hl113_4, hi113_4⟩ := at_T32 HR0.out x5_1 p113 q113
                              obtain rfl : ad110 = ad113 := (by injection e113)
                              have HR113_2 := Aside0.mk hi113_2
                              have HC113_2 := Aside0.mk hl113_2
                              clear hi113_2 hl113_2
                              have HR113_3 := Aside0.mk hi113_3
                              have HC113_3 := Aside0.mk hl113_3
                              clear hi113_3 hl113_3
                              have HR113_4 := Aside0.mk hi113_4
                              have HC113_4 := Aside0.mk hl113_4
                              clear hi113_4 hl113_4
                              replace p113 := eq_true p113
                              replace q113 := eq_true q113
                              have ea_ := Option.some.inj (hx112_2.symm.trans hx113_2)
                              injection ea_ with ea_ en_ ec_
                              subst ea_
                              subst ec_
                              clear en_
                              have ea_ := Option.some.inj (hx112_3.symm.trans hx113_3)
                              injection ea_ with ea_ en_ ec_
                              subst ea_
                              subst ec_
                              clear en_
                              have ea_ := Option.some.inj (hx112_4.symm.trans hx113_4)
                              injection ea_ with ea_ en_ ec_
                              subst ea_
                              subst ec_
                              clear en_
                              have p114 : 0 ≤ (x6_3 : Int) := of_decide_eq_true (by first | (with_reducible assumption) | assumption)
                              have q114 : x6_3 < (((rd_T32 l0 x5_1).f2).length : Int) := of_decide_eq_true (by first | (with_reducible assumption) | assumption)
                              obtain ⟨ad114, e114, hx114_0, hx114_1, hx114_2⟩ := at_T73 HR113_2.out x6_3 p114 q114
                              cases e114
                              replace p114 := eq_true p114
                              replace q114 := eq_true q114
                              go_wp2
                              repeat (go_quiet (fail); try go_wp2)
                              go_roundg k3
                              case measure => have := HK1.out; have := HJ2.out; have := HK3.out; omega
                              case rel => exact ⟨(wrap64 (x1_3 - (((rd_T73 ((rd_T32 l0 x5_1).f2) x6_3).f2).size : Int))), (wrap64 (x6_3 + 1)), (by first | rfl | (simp; done) | (simp [*]; done)), (by first | rfl | (simp; done) | (simp [*]; done)), H', ⟨by have := HK1.out; have := HJ2.out; have := HK3.out; omega⟩, by repeat (first | exact Drawn0.refl _ | apply Drawn0.step)⟩
                            · rw [if_neg c12] at H
                              exact absurd H (by simp)
                          · rw [if_neg c11] at H
                            have c11b0 : decide (0 ≤ x1_3) = false := decide_eq_false c11
                            clear c11
                            replace H := Option.bind_eq_some_iff.mp H
                            obtain ⟨t116, A130, H⟩ := H
                            replace H : ((spandrelref18_few.f k3 ((rd_T32 l0 x5_1).f4) t116).bind fun t118 => (spandrelref18_few.l0 k3 l0 t118 (wrap64 (x5_1 + 1)))) = some r := H
                            have A13 := Aside0.mk A130
                            clear A130
                            replace H := Option.bind_eq_some_iff.mp H
                            obtain ⟨t118, A140, H⟩ := H
                            replace H : (spandrelref18_few.l0 k3 l0 t118 (wrap64 (x5_1 + 1))) = some r := H
                            have A14 := Aside0.mk A140
                            clear A140
                            have H' := Aside0.mk H
                            clear H
                            have p112 : 0 ≤ (x5_1 : Int) := of_decide_eq_true (by first | (with_reducible assumption) | assumption)
                            have q112 : x5_1 < (l0.length : Int) := of_decide_eq_true (by first | (with_reducible assumption) | assumption)
                            obtain ⟨ad112, A112_2, c112_2, A112_3, c112_3, A112_4, c112_4, e112, hx112_0, hx112_1, hx112_2, hx112_3, hx112_4, hl112_2, hi112_2, hl112_3, hi112_3, hl112_4, hi112_4⟩ := at_T32 HR0.out x5_1 p112 q112
                            obtain rfl : ad110 = ad112 := (by injection e112)
                            have HR112_2 := Aside0.mk hi112_2
                            have HC112_2 := Aside0.mk hl112_2
                            clear hi112_2 hl112_2
                            have HR112_3 := Aside0.mk hi112_3
                            have HC112_3 := Aside0.mk hl112_3
                            clear hi112_3 hl112_3
                            have HR112_4 := Aside0.mk hi112_4
                            have HC112_4 := Aside0.mk hl112_4
                            clear hi112_4 hl112_4
                            replace p112 := eq_true p112
                            replace q112 := eq_true q112
                            have p115 : 0 ≤ (x5_1 : Int) := of_decide_eq_true (by first | (with_reducible assumption) | assumption)
                            have q115 : x5_1 < (l0.length : Int) := of_decide_eq_true (by first | (with_reducible assumption) | assumption)
                            obtain ⟨ad115, A115_2, c115_2, A115_3, c115_3, A115_4, c115_4, e115, hx115_0, hx115_1, hx115_2, hx115_3, hx115_4, hl115_2, hi115_2, hl115_3, hi115_3, hl115_4, hi115_4⟩ := at_T32 HR0.out x5_1 p115 q115
                            obtain rfl : ad110 = ad115 := (by injection e115)
                            have HR115_2 := Aside0.mk hi115_2
                            have HC115_2 := Aside0.mk hl115_2
                            clear hi115_2 hl115_2
                            have HR115_3 := Aside0.mk hi115_3
                            have HC115_3 := Aside0.mk hl115_3
                            clear hi115_3 hl115_3
                            have HR115_4 := Aside0.mk hi115_4
                            have HC115_4 := Aside0.mk hl115_4
                            clear hi115_4 hl115_4
                            replace p115 := eq_true p115
                            replace q115 := eq_true q115
                            have ea_ := Option.some.inj (hx112_2.symm.trans hx115_2)
                            injection ea_ with ea_ en_ ec_
                            subst ea_
                            subst ec_
                            clear en_
                            have ea_ := Option.some.inj (hx112_3.symm.trans hx115_3)
                            injection ea_ with ea_ en_ ec_
                            subst ea_
                            subst ec_
                            clear en_
                            have ea_ := Option.some.inj (hx112_4.symm.trans hx115_4)
                            injection ea_ with ea_ en_ ec_
                            subst ea_
                            subst ec_
                            clear en_
                            go_wp2_with (first | (go_at_call 28; (with_reducible refine (ih k3 (by have := HK1.out; have := HJ2.out; have := HK3.out; omega) _ _ ((rd_T32 l0 x5_1).f3) x1_3 t116 _ ?side1 ?side2 A13.out).mono ?_); (case side1 => repeat (first | exact HR115_3.out | (with_reducible refine Kd.C_alloc ?_ _) | (with_reducible refine Kd.C_drewN ?_ _) | (with_reducible refine Kd.C_drew ?_))); (case side2 => exact HC115_3.out); rintro e w' ⟨rfl, ⟨nd, rfl⟩⟩; (try first | exact ⟨rfl, _, World.drewN_drewN _ _ _⟩ | exact ⟨rfl, _, Eq.trans (World.drewN_drewN _ _ _) (congrArg (World.drewN _) (Nat.add_assoc _ _ _))⟩); have p117 : 0 ≤ (x5_1 : Int) := of_decide_eq_true (by first | (with_reducible assumption) | assumption); have q117 : x5_1 < (l0.length : Int) := of_decide_eq_true (by first | (with_reducible assumption) | assumption); obtain ⟨ad117, A117_2, c117_2, A117_3, c117_3, A117_4, c117_4, e117, hx117_0, hx117_1, hx117_2, hx117_3, hx117_4, hl117_2, hi117_2, hl117_3, hi117_3, hl117_4, hi117_4⟩ := at_T32 HR0.out x5_1 p117 q117; obtain rfl : ad110 = ad117 := (by injection e117); have HR117_2 := Aside0.mk hi117_2; have HC117_2 := Aside0.mk hl117_2; clear hi117_2 hl117_2; have HR117_3 := Aside0.mk hi117_3; have HC117_3 := Aside0.mk hl117_3; clear hi117_3 hl117_3; have HR117_4 := Aside0.mk hi117_4; have HC117_4 := Aside0.mk hl117_4; clear hi117_4 hl117_4; replace p117 := eq_true p117; replace q117 := eq_true q117; have ea_ := Option.some.inj (hx112_2.symm.trans hx117_2); injection ea_ with ea_ en_ ec_; subst ea_; subst ec_; clear en_; have ea_ := Option.some.inj (hx112_3.symm.trans hx117_3); injection ea_ with ea_ en_ ec_; subst ea_; subst ec_; clear en_; have ea_ := Option.some.inj (hx112_4.symm.trans hx117_4); injection ea_ with ea_ en_ ec_; subst ea_; subst ec_; clear en_) | (go_at_call 28; (with_reducible refine (ih k3 (by have := HK1.out; have := HJ2.out; have := HK3.out; omega) _ _ ((rd_T32 l0 x5_1).f4) t116 t118 _ ?side1 ?side2 A14.out).mono ?_); (case side1 => repeat (first | exact HR117_4.out | (with_reducible refine Kd.C_alloc ?_ _) | (with_reducible refine Kd.C_drewN ?_ _) | (with_reducible refine Kd.C_drew ?_))); (case side2 => exact HC117_4.out); rintro e w' ⟨rfl, ⟨nd, rfl⟩⟩; (try first | exact ⟨rfl, _, World.drewN_drewN _ _ _⟩ | exact ⟨rfl, _, Eq.trans (World.drewN_drewN _ _ _) (congrArg (World.drewN _) (Nat.add_assoc _ _ _))⟩)))
                            repeat (go_quiet (first | (go_at_call 28; (with_reducible refine (ih k3 (by have := HK1.out; have := HJ2.out; have := HK3.out; omega) _ _ ((rd_T32 l0 x5_1).f3) x1_3 t116 _ ?side1 ?side2 A13.out).mono ?_); (case side1 => repeat (first | exact HR115_3.out | (with_reducible refine Kd.C_alloc ?_ _) | (with_reducible refine Kd.C_drewN ?_ _) | (with_reducible refine Kd.C_drew ?_))); (case side2 => exact HC115_3.out); rintro e w' ⟨rfl, ⟨nd, rfl⟩⟩; (try first | exact ⟨rfl, _, World.drewN_drewN _ _ _⟩ | exact ⟨rfl, _, Eq.trans (World.drewN_drewN _ _ _) (congrArg (World.drewN _) (Nat.add_assoc _ _ _))⟩); have p117 : 0 ≤ (x5_1 : Int) := of_decide_eq_true (by first | (with_reducible assumption) | assumption); have q117 : x5_1 < (l0.length : Int) := of_decide_eq_true (by first | (with_reducible assumption) | assumption); obtain ⟨ad117, A117_2, c117_2, A117_3, c117_3, A117_4, c117_4, e117, hx117_0, hx117_1, hx117_2, hx117_3, hx117_4, hl117_2, hi117_2, hl117_3, hi117_3, hl117_4, hi117_4⟩ := at_T32 HR0.out x5_1 p117 q117; obtain rfl : ad110 = ad117 := (by injection e117); have HR117_2 := Aside0.mk hi117_2; have HC117_2 := Aside0.mk hl117_2; clear hi117_2 hl117_2; have HR117_3 := Aside0.mk hi117_3; have HC117_3 := Aside0.mk hl117_3; clear hi117_3 hl117_3; have HR117_4 := Aside0.mk hi117_4; have HC117_4 := Aside0.mk hl117_4; clear hi117_4 hl117_4; replace p117 := eq_true p117; replace q117 := eq_true q117; have ea_ := Option.some.inj (hx112_2.symm.trans hx117_2); injection ea_ with ea_ en_ ec_; subst ea_; subst ec_; clear en_; have ea_ := Option.some.inj (hx112_3.symm.trans hx117_3); injection ea_ with ea_ en_ ec_; subst ea_; subst ec_; clear en_; have ea_ := Option.some.inj (hx112_4.symm.trans hx117_4); injection ea_ with ea_ en_ ec_; subst ea_; subst ec_; clear en_) | (go_at_call 28; (with_reducible refine (ih k3 (by have := HK1.out; have := HJ2.out; have := HK3.out; omega) _ _ ((rd_T32 l0 x5_1).f4) t116 t118 _ ?side1 ?side2 A14.out).mono ?_); (case side1 => repeat (first | exact HR117_4.out | (with_reducible refine Kd.C_alloc ?_ _) | (with_reducible refine Kd.C_drewN ?_ _) | (with_reducible refine Kd.C_drew ?_))); (case side2 => exact HC117_4.out); rintro e w' ⟨rfl, ⟨nd, rfl⟩⟩; (try first | exact ⟨rfl, _, World.drewN_drewN _ _ _⟩ | exact ⟨rfl, _, Eq.trans (World.drewN_drewN _ _ _) (congrArg (World.drewN _) (Nat.add_assoc _ _ _))⟩))); try go_wp2_with (first | (go_at_call 28; (with_reducible refine (ih k3 (by have := HK1.out; have := HJ2.out; have := HK3.out; omega) _ _ ((rd_T32 l0 x5_1).f3) x1_3 t116 _ ?side1 ?side2 A13.out).mono ?_); (case side1 => repeat (first | exact HR115_3.out | (with_reducible refine Kd.C_alloc ?_ _) | (with_reducible refine Kd.C_drewN ?_ _) | (with_reducible refine Kd.C_drew ?_))); (case side2 => exact HC115_3.out); rintro e w' ⟨rfl, ⟨nd, rfl⟩⟩; (try first | exact ⟨rfl, _, World.drewN_drewN _ _ _⟩ | exact ⟨rfl, _, Eq.trans (World.drewN_drewN _ _ _) (congrArg (World.drewN _) (Nat.add_assoc _ _ _))⟩); have p117 : 0 ≤ (x5_1 : Int) := of_decide_eq_true (by first | (with_reducible assumption) | assumption); have q117 : x5_1 < (l0.length : Int) := of_decide_eq_true (by first | (with_reducible assumption) | assumption); obtain ⟨ad117, A117_2, c117_2, A117_3, c117_3, A117_4, c117_4, e117, hx117_0, hx117_1, hx117_2, hx117_3, hx117_4, hl117_2, hi117_2, hl117_3, hi117_3, hl117_4, hi117_4⟩ := at_T32 HR0.out x5_1 p117 q117; obtain rfl : ad110 = ad117 := (by injection e117); have HR117_2 := Aside0.mk hi117_2; have HC117_2 := Aside0.mk hl117_2; clear hi117_2 hl117_2; have HR117_3 := Aside0.mk hi117_3; have HC117_3 := Aside0.mk hl117_3; clear hi117_3 hl117_3; have HR117_4 := Aside0.mk hi117_4; have HC117_4 := Aside0.mk hl117_4; clear hi117_4 hl117_4; replace p117 := eq_true p117; replace q117 := eq_true q117; have ea_ := Option.some.inj (hx112_2.symm.trans hx117_2); injection ea_ with ea_ en_ ec_; subst ea_; subst ec_; clear en_; have ea_ := Option.some.inj (hx112_3.symm.trans hx117_3); injection ea_ with ea_ en_ ec_; subst ea_; subst ec_; clear en_; have ea_ := Option.some.inj (hx112_4.symm.trans hx117_4); injection ea_ with ea_ en_ ec_; subst ea_; subst ec_; clear en_) | (go_at_call 28; (with_reducible refine (ih k3 (by have := HK1.out; have := HJ2.out; have := HK3.out; omega) _ _ ((rd_T32 l0 x5_1).f4) t116 t118 _ ?side1 ?side2 A14.out).mono ?_); (case side1 => repeat (first | exact HR117_4.out | (with_reducible refine Kd.C_alloc ?_ _) | (with_reducible refine Kd.C_drewN ?_ _) | (with_reducible refine Kd.C_drew ?_))); (case side2 => exact HC117_4.out); rintro e w' ⟨rfl, ⟨nd, rfl⟩⟩; (try first | exact ⟨rfl, _, World.drewN_drewN _ _ _⟩ | exact ⟨rfl, _, Eq.trans (World.drewN_drewN _ _ _) (congrArg (World.drewN _) (Nat.add_assoc _ _ _))⟩))))
                            go_roundg k3
                            case measure => have := HK1.out; have := HJ2.out; have := HK3.out; omega
                            case rel => exact ⟨(t118), (wrap64 (x5_1 + 1)), (by first | rfl | (simp; done) | (simp [*]; done)), (by first | rfl | (simp; done) | (simp [*]; done)), H', ⟨by have := HK1.out; have := HJ2.out; have := HK3.out; omega⟩, by repeat (first | exact Drawn0.refl _ | apply Drawn0.step)⟩
                        · rw [if_neg c10] at H
                          have c10b0 : decide (x6_3 < (((rd_T32 l0 x5_1).f2).length : Int)) = false := decide_eq_false c10
                          clear c10
                          replace H := Option.bind_eq_some_iff.mp H
                          obtain ⟨t120, A150, H⟩ := H
                          replace H : ((spandrelref18_few.f k3 ((rd_T32 l0 x5_1).f4) t120).bind fun t122 => (spandrelref18_few.l0 k3 l0 t122 (wrap64 (x5_1 + 1)))) = some r := H
                          have A15 := Aside0.mk A150
                          clear A150
                          replace H := Option.bind_eq_some_iff.mp H
                          obtain ⟨t122, A160, H⟩ := H
                          replace H : (spandrelref18_few.l0 k3 l0 t122 (wrap64 (x5_1 + 1))) = some r := H
                          have A16 := Aside0.mk A160
                          clear A160
                          have H' := Aside0.mk H
                          clear H
                          have p112 : 0 ≤ (x5_1 : Int) := of_decide_eq_true (by first | (with_reducible assumption) | assumption)
                          have q112 : x5_1 < (l0.length : Int) := of_decide_eq_true (by first | (with_reducible assumption) | assumption)
                          obtain ⟨ad112, A112_2, c112_2, A112_3, c112_3, A112_4, c112_4, e112, hx112_0, hx112_1, hx112_2, hx112_3, hx112_4, hl112_2, hi112_2, hl112_3, hi112_3, hl112_4, hi112_4⟩ := at_T32 HR0.out x5_1 p112 q112
                          obtain rfl : ad110 = ad112 := (by injection e112)
                          have HR112_2 := Aside0.mk hi112_2
                          have HC112_2 := Aside0.mk hl112_2
                          clear hi112_2 hl112_2
                          have HR112_3 := Aside0.mk hi112_3
                          have HC112_3 := Aside0.mk hl112_3
                          clear hi112_3 hl112_3
                          have HR112_4 := Aside0.mk hi112_4
                          have HC112_4 := Aside0.mk hl112_4
                          clear hi112_4 hl112_4
                          replace p112 := eq_true p112
                          replace q112 := eq_true q112
                          have p119 : 0 ≤ (x5_1 : Int) := of_decide_eq_true (by first | (with_reducible assumption) | assumption)
                          have q119 : x5_1 < (l0.length : Int) := of_decide_eq_true (by first | (with_reducible assumption) | assumption)
                          obtain ⟨ad119, A119_2, c119_2, A119_3, c119_3, A119_4, c119_4, e119, hx119_0, hx119_1, hx119_2, hx119_3, hx119_4, hl119_2, hi119_2, hl119_3, hi119_3, hl119_4, hi119_4⟩ := at_T32 HR0.out x5_1 p119 q119
                          obtain rfl : ad110 = ad119 := (by injection e119)
                          have HR119_2 := Aside0.mk hi119_2
                          have HC119_2 := Aside0.mk hl119_2
                          clear hi119_2 hl119_2
                          have HR119_3 := Aside0.mk hi119_3
                          have HC119_3 := Aside0.mk hl119_3
                          clear hi119_3 hl119_3
                          have HR119_4 := Aside0.mk hi119_4
                          have HC119_4 := Aside0.mk hl119_4
                          clear hi119_4 hl119_4
                          replace p119 := eq_true p119
                          replace q119 := eq_true q119
                          have ea_ := Option.some.inj (hx112_2.symm.trans hx119_2)
                          injection ea_ with ea_ en_ ec_
                          subst ea_
                          subst ec_
                          clear en_
                          have ea_ := Option.some.inj (hx112_3.symm.trans hx119_3)
                          injection ea_ with ea_ en_ ec_
                          subst ea_
                          subst ec_
                          clear en_
                          have ea_ := Option.some.inj (hx112_4.symm.trans hx119_4)
                          injection ea_ with ea_ en_ ec_
                          subst ea_
                          subst ec_
                          clear en_
                          go_wp2_with (first | (go_at_call 28; (with_reducible refine (ih k3 (by have := HK1.out; have := HJ2.out; have := HK3.out; omega) _ _ ((rd_T32 l0 x5_1).f3) x1_3 t120 _ ?side1 ?side2 A15.out).mono ?_); (case side1 => repeat (first | exact HR119_3.out | (with_reducible refine Kd.C_alloc ?_ _) | (with_reducible refine Kd.C_drewN ?_ _) | (with_reducible refine Kd.C_drew ?_))); (case side2 => exact HC119_3.out); rintro e w' ⟨rfl, ⟨nd, rfl⟩⟩; (try first | exact ⟨rfl, _, World.drewN_drewN _ _ _⟩ | exact ⟨rfl, _, Eq.trans (World.drewN_drewN _ _ _) (congrArg (World.drewN _) (Nat.add_assoc _ _ _))⟩); have p121 : 0 ≤ (x5_1 : Int) := of_decide_eq_true (by first | (with_reducible assumption) | assumption); have q121 : x5_1 < (l0.length : Int) := of_decide_eq_true (by first | (with_reducible assumption) | assumption); obtain ⟨ad121, A121_2, c121_2, A121_3, c121_3, A121_4, c121_4, e121, hx121_0, hx121_1, hx121_2, hx121_3, hx121_4, hl121_2, hi121_2, hl121_3, hi121_3, hl121_4, hi121_4⟩ := at_T32 HR0.out x5_1 p121 q121; obtain rfl : ad110 = ad121 := (by injection e121); have HR121_2 := Aside0.mk hi121_2; have HC121_2 := Aside0.mk hl121_2; clear hi121_2 hl121_2; have HR121_3 := Aside0.mk hi121_3; have HC121_3 := Aside0.mk hl121_3; clear hi121_3 hl121_3; have HR121_4 := Aside0.mk hi121_4; have HC121_4 := Aside0.mk hl121_4; clear hi121_4 hl121_4; replace p121 := eq_true p121; replace q121 := eq_true q121; have ea_ := Option.some.inj (hx112_2.symm.trans hx121_2); injection ea_ with ea_ en_ ec_; subst ea_; subst ec_; clear en_; have ea_ := Option.some.inj (hx112_3.symm.trans hx121_3); injection ea_ with ea_ en_ ec_; subst ea_; subst ec_; clear en_; have ea_ := Option.some.inj (hx112_4.symm.trans hx121_4); injection ea_ with ea_ en_ ec_; subst ea_; subst ec_; clear en_) | (go_at_call 28; (with_reducible refine (ih k3 (by have := HK1.out; have := HJ2.out; have := HK3.out; omega) _ _ ((rd_T32 l0 x5_1).f4) t120 t122 _ ?side1 ?side2 A16.out).mono ?_); (case side1 => repeat (first | exact HR121_4.out | (with_reducible refine Kd.C_alloc ?_ _) | (with_reducible refine Kd.C_drewN ?_ _) | (with_reducible refine Kd.C_drew ?_))); (case side2 => exact HC121_4.out); rintro e w' ⟨rfl, ⟨nd, rfl⟩⟩; (try first | exact ⟨rfl, _, World.drewN_drewN _ _ _⟩ | exact ⟨rfl, _, Eq.trans (World.drewN_drewN _ _ _) (congrArg (World.drewN _) (Nat.add_assoc _ _ _))⟩)))
                          repeat (go_quiet (first | (go_at_call 28; (with_reducible refine (ih k3 (by have := HK1.out; have := HJ2.out; have := HK3.out; omega) _ _ ((rd_T32 l0 x5_1).f3) x1_3 t120 _ ?side1 ?side2 A15.out).mono ?_); (case side1 => repeat (first | exact HR119_3.out | (with_reducible refine Kd.C_alloc ?_ _) | (with_reducible refine Kd.C_drewN ?_ _) | (with_reducible refine Kd.C_drew ?_))); (case side2 => exact HC119_3.out); rintro e w' ⟨rfl, ⟨nd, rfl⟩⟩; (try first | exact ⟨rfl, _, World.drewN_drewN _ _ _⟩ | exact ⟨rfl, _, Eq.trans (World.drewN_drewN _ _ _) (congrArg (World.drewN _) (Nat.add_assoc _ _ _))⟩); have p121 : 0 ≤ (x5_1 : Int) := of_decide_eq_true (by first | (with_reducible assumption) | assumption); have q121 : x5_1 < (l0.length : Int) := of_decide_eq_true (by first | (with_reducible assumption) | assumption); obtain ⟨ad121, A121_2, c121_2, A121_3, c121_3, A121_4, c121_4, e121, hx121_0, hx121_1, hx121_2, hx121_3, hx121_4, hl121_2, hi121_2, hl121_3, hi121_3, hl121_4, hi121_4⟩ := at_T32 HR0.out x5_1 p121 q121; obtain rfl : ad110 = ad121 := (by injection e121); have HR121_2 := Aside0.mk hi121_2; have HC121_2 := Aside0.mk hl121_2; clear hi121_2 hl121_2; have HR121_3 := Aside0.mk hi121_3; have HC121_3 := Aside0.mk hl121_3; clear hi121_3 hl121_3; have HR121_4 := Aside0.mk hi121_4; have HC121_4 := Aside0.mk hl121_4; clear hi121_4 hl121_4; replace p121 := eq_true p121; replace q121 := eq_true q121; have ea_ := Option.some.inj (hx112_2.symm.trans hx121_2); injection ea_ with ea_ en_ ec_; subst ea_; subst ec_; clear en_; have ea_ := Option.some.inj (hx112_3.symm.trans hx121_3); injection ea_ with ea_ en_ ec_; subst ea_; subst ec_; clear en_; have ea_ := Option.some.inj (hx112_4.symm.trans hx121_4); injection ea_ with ea_ en_ ec_; subst ea_; subst ec_; clear en_) | (go_at_call 28; (with_reducible refine (ih k3 (by have := HK1.out; have := HJ2.out; have := HK3.out; omega) _ _ ((rd_T32 l0 x5_1).f4) t120 t122 _ ?side1 ?side2 A16.out).mono ?_); (case side1 => repeat (first | exact HR121_4.out | (with_reducible refine Kd.C_alloc ?_ _) | (with_reducible refine Kd.C_drewN ?_ _) | (with_reducible refine Kd.C_drew ?_))); (case side2 => exact HC121_4.out); rintro e w' ⟨rfl, ⟨nd, rfl⟩⟩; (try first | exact ⟨rfl, _, World.drewN_drewN _ _ _⟩ | exact ⟨rfl, _, Eq.trans (World.drewN_drewN _ _ _) (congrArg (World.drewN _) (Nat.add_assoc _ _ _))⟩))); try go_wp2_with (first | (go_at_call 28; (with_reducible refine (ih k3 (by have := HK1.out; have := HJ2.out; have := HK3.out; omega) _ _ ((rd_T32 l0 x5_1).f3) x1_3 t120 _ ?side1 ?side2 A15.out).mono ?_); (case side1 => repeat (first | exact HR119_3.out | (with_reducible refine Kd.C_alloc ?_ _) | (with_reducible refine Kd.C_drewN ?_ _) | (with_reducible refine Kd.C_drew ?_))); (case side2 => exact HC119_3.out); rintro e w' ⟨rfl, ⟨nd, rfl⟩⟩; (try first | exact ⟨rfl, _, World.drewN_drewN _ _ _⟩ | exact ⟨rfl, _, Eq.trans (World.drewN_drewN _ _ _) (congrArg (World.drewN _) (Nat.add_assoc _ _ _))⟩); have p121 : 0 ≤ (x5_1 : Int) := of_decide_eq_true (by first | (with_reducible assumption) | assumption); have q121 : x5_1 < (l0.length : Int) := of_decide_eq_true (by first | (with_reducible assumption) | assumption); obtain ⟨ad121, A121_2, c121_2, A121_3, c121_3, A121_4, c121_4, e121, hx121_0, hx121_1, hx121_2, hx121_3, hx121_4, hl121_2, hi121_2, hl121_3, hi121_3, hl121_4, hi121_4⟩ := at_T32 HR0.out x5_1 p121 q121; obtain rfl : ad110 = ad121 := (by injection e121); have HR121_2 := Aside0.mk hi121_2; have HC121_2 := Aside0.mk hl121_2; clear hi121_2 hl121_2; have HR121_3 := Aside0.mk hi121_3; have HC121_3 := Aside0.mk hl121_3; clear hi121_3 hl121_3; have HR121_4 := Aside0.mk hi121_4; have HC121_4 := Aside0.mk hl121_4; clear hi121_4 hl121_4; replace p121 := eq_true p121; replace q121 := eq_true q121; have ea_ := Option.some.inj (hx112_2.symm.trans hx121_2); injection ea_ with ea_ en_ ec_; subst ea_; subst ec_; clear en_; have ea_ := Option.some.inj (hx112_3.symm.trans hx121_3); injection ea_ with ea_ en_ ec_; subst ea_; subst ec_; clear en_; have ea_ := Option.some.inj (hx112_4.symm.trans hx121_4); injection ea_ with ea_ en_ ec_; subst ea_; subst ec_; clear en_) | (go_at_call 28; (with_reducible refine (ih k3 (by have := HK1.out; have := HJ2.out; have := HK3.out; omega) _ _ ((rd_T32 l0 x5_1).f4) t120 t122 _ ?side1 ?side2 A16.out).mono ?_); (case side1 => repeat (first | exact HR121_4.out | (with_reducible refine Kd.C_alloc ?_ _) | (with_reducible refine Kd.C_drewN ?_ _) | (with_reducible refine Kd.C_drew ?_))); (case side2 => exact HC121_4.out); rintro e w' ⟨rfl, ⟨nd, rfl⟩⟩; (try first | exact ⟨rfl, _, World.drewN_drewN _ _ _⟩ | exact ⟨rfl, _, Eq.trans (World.drewN_drewN _ _ _) (congrArg (World.drewN _) (Nat.add_assoc _ _ _))⟩))))
                          go_roundg k3
                          case measure => have := HK1.out; have := HJ2.out; have := HK3.out; omega
                          case rel => exact ⟨(t122), (wrap64 (x5_1 + 1)), (by first | rfl | (simp; done) | (simp [*]; done)), (by first | rfl | (simp; done) | (simp [*]; done)), H', ⟨by have := HK1.out; have := HJ2.out; have := HK3.out; omega⟩, by repeat (first | exact Drawn0.refl _ | apply Drawn0.step)⟩
                      · rw [if_neg c9] at H
                        exact absurd H (by simp)
                    · rw [if_neg c8] at H
                      exact absurd H (by simp)
              · rw [if_neg c7] at H
                exact absurd H (by simp)
            · rw [if_neg c6] at H
              exact absurd H (by simp)
          · replace c5 := Bool.eq_false_iff.mpr c5
            subst c5
            have H1 : (some x1_1) = some r := by rw [if_neg (show ¬ (false = true) by decide)] at H; exact H
            clear H
            have H := H1
            clear H1
            obtain rfl := Option.some.inj H
            go_wp2
            repeat (go_quiet (fail); try go_wp2)
            go_ret
            exact ⟨by first | rfl | (simp; done) | (simp [*]; done), by repeat (first | exact Drawn0.refl _ | apply Drawn0.step)⟩

/-! ### spandrelref18_Few: function 11 -/
def spandrelref18_Few.l0 : Nat → List (S34) → Int → Int → Option (Bool)
  | 0, _, _, _ => none
  | k + 1, x0, x1, x5 => if x5 < (x0.length : Int) then (if x1 ≥ 0 then (if 0 ≤ x5 then ((spandrelref18_few.f k ((rd_T34 x0 x5).f1) (wrap64 ((wrap64 (x1 - 1)) - (((rd_T34 x0 x5).f0).size : Int)))).bind fun t125 => (spandrelref18_Few.l0 k x0 t125 (wrap64 (x5 + 1)))) else (none)) else (some (decide (x1 ≥ 0)))) else (some (decide (x1 ≥ 0)))
def spandrelref18_Few.f (k : Nat) (l0 : List (S34)) (a1 : Int) : Option (Bool) := spandrelref18_Few.l0 k l0 a1 0
theorem spandrelref18_Few.mono_l : ∀ k, (∀ y0 y1 y2, LeO (spandrelref18_Few.l0 k y0 y1 y2) (spandrelref18_Few.l0 (k + 1) y0 y1 y2))
  | 0 => fun _ _ _ r h => by simp [spandrelref18_Few.l0] at h
  | k + 1 => by
    have ih0 := spandrelref18_Few.mono_l k
    · intro y0 y1 y2
      unfold spandrelref18_Few.l0
      repeat' first
      | (with_reducible exact ih0 _ _ _)
      | (with_reducible exact spandrelref18_few.mono _ _ _)
      | (with_reducible exact LeO.refl _)
      | (with_reducible exact LeO.none _)
      | (with_reducible refine LeO.ite ?_ ?_)
      | (with_reducible refine LeO.bind ?_ (fun _ => ?_))
      | exact ih0 _ _ _
      | exact spandrelref18_few.mono _ _ _
      | exact LeO.none _
      | refine LeO.ite ?_ ?_
      | refine LeO.bind ?_ (fun _ => ?_)
theorem spandrelref18_Few.mono : ∀ a0 a1 k, LeO (spandrelref18_Few.f k a0 a1) (spandrelref18_Few.f (k + 1) a0 a1) := by
  intro a0 a1 k
  have ih0 := spandrelref18_Few.mono_l k
  unfold spandrelref18_Few.f
  repeat' first
      | (with_reducible exact ih0 _ _ _)
      | (with_reducible exact spandrelref18_few.mono _ _ _)
      | (with_reducible exact LeO.refl _)
      | (with_reducible exact LeO.none _)
      | (with_reducible refine LeO.ite ?_ ?_)
      | (with_reducible refine LeO.bind ?_ (fun _ => ?_))
      | exact ih0 _ _ _
      | exact spandrelref18_few.mono _ _ _
      | exact LeO.none _
      | refine LeO.ite ?_ ?_
      | refine LeO.bind ?_ (fun _ => ?_)
set_option maxHeartbeats 8000000 in
set_option maxRecDepth 100000 in
theorem spandrelref18_Few.calls (k : Nat) (A0 : Option Addr) (c0 : Nat) (l0 : List (S34)) (a1 : Int) (r : Bool) (w : World) (hr0 : Kd.C k34 w A0 l0.length l0) (hc0 : l0.length ≤ c0) (h : spandrelref18_Few.f k l0 a1 = some r) :
    Calls Try.prog 11 #[.slice A0 l0.length c0, .int .i64 a1] w fun e w' => e = .returned (.bool r) ∧ Drawn0 w w' := by
  have HR0 := Aside0.mk hr0
  have HC0 := Aside0.mk hc0
  clear hr0 hc0
  have H : (spandrelref18_Few.l0 k l0 a1 0) = some r := h
  clear h
  have H' := Aside0.mk H
  clear H
  go_enter Try.func11, Try.ntmps11
  go_wp2
  repeat (go_quiet (fail); try go_wp2)
  go_loopg [1, 5] k (fun kq v1 v5 w' => ∃ (x1_1 : Int) (x5_1 : Int), v1 = .int .i64 x1_1 ∧ v5 = .int .i64 x5_1 ∧ Aside0 (spandrelref18_Few.l0 kq l0 x1_1 x5_1 = some r) ∧ Aside0 (kq ≤ k) ∧ Drawn0 w w')
  case atStart => exact ⟨(a1), (0), (by first | rfl | (simp; done) | (simp [*]; done)), (by first | rfl | (simp; done) | (simp [*]; done)), H', ⟨Nat.le_refl _⟩, by repeat (first | exact Drawn0.refl _ | apply Drawn0.step)⟩
  case round =>
    clear H'
    try clear c1
    try clear p2
    obtain ⟨x1_1, x5_1, rfl, rfl, HA, HK1, ⟨m1, rfl⟩⟩ := hrel
    cases gk with
    | zero => exact absurd HA.out (by simp [spandrelref18_Few.l0])
    | succ k1 =>
      have H := HA.out
      clear HA
      simp only [spandrelref18_Few.l0] at H
      by_cases c3 : x5_1 < (l0.length : Int)
      · rw [if_pos c3] at H
        have c3b0 : decide (x5_1 < (l0.length : Int)) = true := decide_eq_true c3
        clear c3
        by_cases c4 : x1_1 ≥ 0
        · rw [if_pos c4] at H
          have c4b0 : decide (0 ≤ x1_1) = true := decide_eq_true c4
          clear c4
          by_cases c5 : 0 ≤ x5_1
          · rw [if_pos c5] at H
            have c5b0 : decide (0 ≤ x5_1) = true := decide_eq_true c5
            clear c5
            replace H := Option.bind_eq_some_iff.mp H
            obtain ⟨t125, A60, H⟩ := H
            replace H : (spandrelref18_Few.l0 k1 l0 t125 (wrap64 (x5_1 + 1))) = some r := H
            have A6 := Aside0.mk A60
            clear A60
            have H' := Aside0.mk H
            clear H
            have p123 : 0 ≤ (x5_1 : Int) := of_decide_eq_true (by first | (with_reducible assumption) | assumption)
            have q123 : x5_1 < (l0.length : Int) := of_decide_eq_true (by first | (with_reducible assumption) | assumption)
            obtain ⟨ad123, A123_1, c123_1, e123, hx123_0, hx123_1, hl123_1, hi123_1⟩ := at_T34 HR0.out x5_1 p123 q123
            cases e123
            have HR123_1 := Aside0.mk hi123_1
            have HC123_1 := Aside0.mk hl123_1
            clear hi123_1 hl123_1
            replace p123 := eq_true p123
            replace q123 := eq_true q123
            have p124 : 0 ≤ (x5_1 : Int) := of_decide_eq_true (by first | (with_reducible assumption) | assumption)
            have q124 : x5_1 < (l0.length : Int) := of_decide_eq_true (by first | (with_reducible assumption) | assumption)
            obtain ⟨ad124, A124_1, c124_1, e124, hx124_0, hx124_1, hl124_1, hi124_1⟩ := at_T34 HR0.out x5_1 p124 q124
            obtain rfl : ad123 = ad124 := (by injection e124)
            have HR124_1 := Aside0.mk hi124_1
            have HC124_1 := Aside0.mk hl124_1
            clear hi124_1 hl124_1
            replace p124 := eq_true p124
            replace q124 := eq_true q124
            have ea_ := Option.some.inj (hx123_1.symm.trans hx124_1)
            injection ea_ with ea_ en_ ec_
            subst ea_
            subst ec_
            clear en_
            go_wp2_with (first | (go_at_call 28; (with_reducible refine (spandrelref18_few.calls k1 _ _ ((rd_T34 l0 x5_1).f1) (wrap64 ((wrap64 (x1_1 - 1)) - (((rd_T34 l0 x5_1).f0).size : Int))) t125 _ ?side1 ?side2 A6.out).mono ?_); (case side1 => repeat (first | exact HR123_1.out | (with_reducible refine Kd.C_alloc ?_ _) | (with_reducible refine Kd.C_drewN ?_ _) | (with_reducible refine Kd.C_drew ?_))); (case side2 => exact HC123_1.out); rintro e w' ⟨rfl, ⟨nd, rfl⟩⟩; (try first | exact ⟨rfl, _, World.drewN_drewN _ _ _⟩ | exact ⟨rfl, _, Eq.trans (World.drewN_drewN _ _ _) (congrArg (World.drewN _) (Nat.add_assoc _ _ _))⟩)))
            repeat (go_quiet (first | (go_at_call 28; (with_reducible refine (spandrelref18_few.calls k1 _ _ ((rd_T34 l0 x5_1).f1) (wrap64 ((wrap64 (x1_1 - 1)) - (((rd_T34 l0 x5_1).f0).size : Int))) t125 _ ?side1 ?side2 A6.out).mono ?_); (case side1 => repeat (first | exact HR123_1.out | (with_reducible refine Kd.C_alloc ?_ _) | (with_reducible refine Kd.C_drewN ?_ _) | (with_reducible refine Kd.C_drew ?_))); (case side2 => exact HC123_1.out); rintro e w' ⟨rfl, ⟨nd, rfl⟩⟩; (try first | exact ⟨rfl, _, World.drewN_drewN _ _ _⟩ | exact ⟨rfl, _, Eq.trans (World.drewN_drewN _ _ _) (congrArg (World.drewN _) (Nat.add_assoc _ _ _))⟩))); try go_wp2_with (first | (go_at_call 28; (with_reducible refine (spandrelref18_few.calls k1 _ _ ((rd_T34 l0 x5_1).f1) (wrap64 ((wrap64 (x1_1 - 1)) - (((rd_T34 l0 x5_1).f0).size : Int))) t125 _ ?side1 ?side2 A6.out).mono ?_); (case side1 => repeat (first | exact HR123_1.out | (with_reducible refine Kd.C_alloc ?_ _) | (with_reducible refine Kd.C_drewN ?_ _) | (with_reducible refine Kd.C_drew ?_))); (case side2 => exact HC123_1.out); rintro e w' ⟨rfl, ⟨nd, rfl⟩⟩; (try first | exact ⟨rfl, _, World.drewN_drewN _ _ _⟩ | exact ⟨rfl, _, Eq.trans (World.drewN_drewN _ _ _) (congrArg (World.drewN _) (Nat.add_assoc _ _ _))⟩))))
            go_roundg k1
            case measure => have := HK1.out; omega
            case rel => exact ⟨(t125), (wrap64 (x5_1 + 1)), (by first | rfl | (simp; done) | (simp [*]; done)), (by first | rfl | (simp; done) | (simp [*]; done)), H', ⟨by have := HK1.out; omega⟩, by repeat (first | exact Drawn0.refl _ | apply Drawn0.step)⟩
          · rw [if_neg c5] at H
            exact absurd H (by simp)
        · rw [if_neg c4] at H
          have c4b0 : decide (0 ≤ x1_1) = false := decide_eq_false c4
          clear c4
          obtain rfl := Option.some.inj H
          go_wp2
          repeat (go_quiet (fail); try go_wp2)
          go_ret
          exact ⟨by first | rfl | (simp; done) | (simp [*]; done), by repeat (first | exact Drawn0.refl _ | apply Drawn0.step)⟩
      · rw [if_neg c3] at H
        have c3b0 : decide (x5_1 < (l0.length : Int)) = false := decide_eq_false c3
        clear c3
        obtain rfl := Option.some.inj H
        go_wp2
        repeat (go_quiet (fail); try go_wp2)
        go_ret
        exact ⟨by first | rfl | (simp; done) | (simp [*]; done), by repeat (first | exact Drawn0.refl _ | apply Drawn0.step)⟩

/-! ### spandrelref20_Find: function 15 -/
def spandrelref20_Find.l0 : Nat → List (S34) → ByteArray → Int → Option (Int)
  | 0, _, _, _ => none
  | k + 1, x0, x1, x5 => if x5 < (x0.length : Int) then (if 0 ≤ x5 then (if ((rd_T34 x0 x5).f0).toList = x1.toList then (some x5) else (spandrelref20_Find.l0 k x0 x1 (wrap64 (x5 + 1)))) else (none)) else (some (-1))
def spandrelref20_Find.f (k : Nat) (l0 : List (S34)) (a1 : ByteArray) : Option (Int) := spandrelref20_Find.l0 k l0 a1 0
theorem spandrelref20_Find.mono_l : ∀ k, (∀ y0 y1 y2, LeO (spandrelref20_Find.l0 k y0 y1 y2) (spandrelref20_Find.l0 (k + 1) y0 y1 y2))
  | 0 => fun _ _ _ r h => by simp [spandrelref20_Find.l0] at h
  | k + 1 => by
    have ih0 := spandrelref20_Find.mono_l k
    · intro y0 y1 y2
      unfold spandrelref20_Find.l0
      repeat' first
      | (with_reducible exact ih0 _ _ _)
      | (with_reducible exact LeO.refl _)
      | (with_reducible exact LeO.none _)
      | (with_reducible refine LeO.ite ?_ ?_)
      | (with_reducible refine LeO.bind ?_ (fun _ => ?_))
      | exact ih0 _ _ _
      | exact LeO.none _
      | refine LeO.ite ?_ ?_
      | refine LeO.bind ?_ (fun _ => ?_)
theorem spandrelref20_Find.mono : ∀ a0 a1 k, LeO (spandrelref20_Find.f k a0 a1) (spandrelref20_Find.f (k + 1) a0 a1) := by
  intro a0 a1 k
  have ih0 := spandrelref20_Find.mono_l k
  unfold spandrelref20_Find.f
  repeat' first
      | (with_reducible exact ih0 _ _ _)
      | (with_reducible exact LeO.refl _)
      | (with_reducible exact LeO.none _)
      | (with_reducible refine LeO.ite ?_ ?_)
      | (with_reducible refine LeO.bind ?_ (fun _ => ?_))
      | exact ih0 _ _ _
      | exact LeO.none _
      | refine LeO.ite ?_ ?_
      | refine LeO.bind ?_ (fun _ => ?_)
set_option maxHeartbeats 8000000 in
set_option maxRecDepth 100000 in
theorem spandrelref20_Find.calls (k : Nat) (A0 : Option Addr) (c0 : Nat) (l0 : List (S34)) (a1 : ByteArray) (r : Int) (w : World) (hr0 : Kd.C k34 w A0 l0.length l0) (hc0 : l0.length ≤ c0) (h : spandrelref20_Find.f k l0 a1 = some r) :
    Calls Try.prog 15 #[.slice A0 l0.length c0, .string a1] w fun e w' => e = .returned (.int .i64 r) ∧ Drawn0 w w' := by
  have HR0 := Aside0.mk hr0
  have HC0 := Aside0.mk hc0
  clear hr0 hc0
  have H : (spandrelref20_Find.l0 k l0 a1 0) = some r := h
  clear h
  have H' := Aside0.mk H
  clear H
  go_enter Try.func15, Try.ntmps15
  go_wp2
  go_loopg [5] k (fun kq v5 w' => ∃ (x5_1 : Int), v5 = .int .i64 x5_1 ∧ Aside0 (spandrelref20_Find.l0 kq l0 a1 x5_1 = some r) ∧ Aside0 (kq ≤ k) ∧ Drawn0 w w')
  case atStart => exact ⟨(0), (by first | rfl | (simp; done) | (simp [*]; done)), H', ⟨Nat.le_refl _⟩, by repeat (first | exact Drawn0.refl _ | apply Drawn0.step)⟩
  case round =>
    clear H'
    try clear c1
    try clear p2
    obtain ⟨x5_1, rfl, HA, HK1, ⟨m1, rfl⟩⟩ := hrel
    cases gk with
    | zero => exact absurd HA.out (by simp [spandrelref20_Find.l0])
    | succ k1 =>
      have H := HA.out
      clear HA
      simp only [spandrelref20_Find.l0] at H
      by_cases c3 : x5_1 < (l0.length : Int)
      · rw [if_pos c3] at H
        have c3b0 : decide (x5_1 < (l0.length : Int)) = true := decide_eq_true c3
        clear c3
        by_cases c4 : 0 ≤ x5_1
        · rw [if_pos c4] at H
          have c4b0 : decide (0 ≤ x5_1) = true := decide_eq_true c4
          clear c4
          by_cases c5 : ((rd_T34 l0 x5_1).f0).toList = a1.toList
          · rw [if_pos c5] at H
            have c5b0 : (((rd_T34 l0 x5_1).f0).toList == a1.toList) = true := beq_iff_eq.mpr c5
            have c5b1 : (((rd_T34 l0 x5_1).f0).toList != a1.toList) = false := bne_eq_false_iff_eq.mpr c5
            clear c5
            obtain rfl := Option.some.inj H
            have p126 : 0 ≤ (x5_1 : Int) := of_decide_eq_true (by first | (with_reducible assumption) | assumption)
            have q126 : x5_1 < (l0.length : Int) := of_decide_eq_true (by first | (with_reducible assumption) | assumption)
            obtain ⟨ad126, A126_1, c126_1, e126, hx126_0, hx126_1, hl126_1, hi126_1⟩ := at_T34 HR0.out x5_1 p126 q126
            cases e126
            have HR126_1 := Aside0.mk hi126_1
            have HC126_1 := Aside0.mk hl126_1
            clear hi126_1 hl126_1
            replace p126 := eq_true p126
            replace q126 := eq_true q126
            go_wp2
            go_ret
            exact ⟨by first | rfl | (simp; done) | (simp [*]; done), by repeat (first | exact Drawn0.refl _ | apply Drawn0.step)⟩
          · rw [if_neg c5] at H
            have c5b0 : (((rd_T34 l0 x5_1).f0).toList == a1.toList) = false := beq_eq_false_iff_ne.mpr c5
            have c5b1 : (((rd_T34 l0 x5_1).f0).toList != a1.toList) = true := bne_iff_ne.mpr c5
            have H' := Aside0.mk H
            clear H
            have p126 : 0 ≤ (x5_1 : Int) := of_decide_eq_true (by first | (with_reducible assumption) | assumption)
            have q126 : x5_1 < (l0.length : Int) := of_decide_eq_true (by first | (with_reducible assumption) | assumption)
            obtain ⟨ad126, A126_1, c126_1, e126, hx126_0, hx126_1, hl126_1, hi126_1⟩ := at_T34 HR0.out x5_1 p126 q126
            cases e126
            have HR126_1 := Aside0.mk hi126_1
            have HC126_1 := Aside0.mk hl126_1
            clear hi126_1 hl126_1
            replace p126 := eq_true p126
            replace q126 := eq_true q126
            go_wp2
            go_roundg k1
            case measure => have := HK1.out; omega
            case rel => exact ⟨(wrap64 (x5_1 + 1)), (by first | rfl | (simp; done) | (simp [*]; done)), H', ⟨by have := HK1.out; omega⟩, by repeat (first | exact Drawn0.refl _ | apply Drawn0.step)⟩
        · rw [if_neg c4] at H
          exact absurd H (by simp)
      · rw [if_neg c3] at H
        have c3b0 : decide (x5_1 < (l0.length : Int)) = false := decide_eq_false c3
        clear c3
        obtain rfl := Option.some.inj H
        go_wp2
        go_ret
        exact ⟨by first | rfl | (simp; done) | (simp [*]; done), by repeat (first | exact Drawn0.refl _ | apply Drawn0.step)⟩

/-! ### spandrelref07_letter: function 123 -/
def spandrelref07_letter.f (a0 : Int) : Option (Bool) := if a0 ≥ 97 then (if a0 ≤ 122 then (some true) else (if a0 ≥ 65 then (some (decide (a0 ≤ 90))) else (some false))) else (if a0 ≥ 65 then (some (decide (a0 ≤ 90))) else (some false))
set_option maxHeartbeats 8000000 in
set_option maxRecDepth 100000 in
theorem spandrelref07_letter.calls (a0 : Int) (r : Bool) (w : World) (h : spandrelref07_letter.f a0 = some r) :
    Calls Try.prog 123 #[.int .u8 a0] w fun e w' => e = .returned (.bool r) ∧ Drawn0 w w' := by
  have H : (if a0 ≥ 97 then (if a0 ≤ 122 then (some true) else (if a0 ≥ 65 then (some (decide (a0 ≤ 90))) else (some false))) else (if a0 ≥ 65 then (some (decide (a0 ≤ 90))) else (some false))) = some r := h
  clear h
  by_cases c2 : a0 ≥ 97
  · rw [if_pos c2] at H
    have c2b0 : decide (97 ≤ a0) = true := decide_eq_true c2
    clear c2
    by_cases c3 : a0 ≤ 122
    · rw [if_pos c3] at H
      have c3b0 : decide (a0 ≤ 122) = true := decide_eq_true c3
      clear c3
      obtain rfl := Option.some.inj H
      go_enter Try.func123, Try.ntmps123
      go_wp2
      go_ret
      exact ⟨by first | rfl | (simp; done) | (simp [*]; done), by repeat (first | exact Drawn0.refl _ | apply Drawn0.step)⟩
    · rw [if_neg c3] at H
      have c3b0 : decide (a0 ≤ 122) = false := decide_eq_false c3
      clear c3
      by_cases c4 : a0 ≥ 65
      · rw [if_pos c4] at H
        have c4b0 : decide (65 ≤ a0) = true := decide_eq_true c4
        clear c4
        obtain rfl := Option.some.inj H
        go_enter Try.func123, Try.ntmps123
        go_wp2
        go_ret
        exact ⟨by first | rfl | (simp; done) | (simp [*]; done), by repeat (first | exact Drawn0.refl _ | apply Drawn0.step)⟩
      · rw [if_neg c4] at H
        have c4b0 : decide (65 ≤ a0) = false := decide_eq_false c4
        clear c4
        obtain rfl := Option.some.inj H
        go_enter Try.func123, Try.ntmps123
        go_wp2
        go_ret
        exact ⟨by first | rfl | (simp; done) | (simp [*]; done), by repeat (first | exact Drawn0.refl _ | apply Drawn0.step)⟩
  · rw [if_neg c2] at H
    have c2b0 : decide (97 ≤ a0) = false := decide_eq_false c2
    clear c2
    by_cases c5 : a0 ≥ 65
    · rw [if_pos c5] at H
      have c5b0 : decide (65 ≤ a0) = true := decide_eq_true c5
      clear c5
      obtain rfl := Option.some.inj H
      go_enter Try.func123, Try.ntmps123
      go_wp2
      go_ret
      exact ⟨by first | rfl | (simp; done) | (simp [*]; done), by repeat (first | exact Drawn0.refl _ | apply Drawn0.step)⟩
    · rw [if_neg c5] at H
      have c5b0 : decide (65 ≤ a0) = false := decide_eq_false c5
      clear c5
      obtain rfl := Option.some.inj H
      go_enter Try.func123, Try.ntmps123
      go_wp2
      go_ret
      exact ⟨by first | rfl | (simp; done) | (simp [*]; done), by repeat (first | exact Drawn0.refl _ | apply Drawn0.step)⟩

/-! ### spandrelref07_digit: function 124 -/
def spandrelref07_digit.f (a0 : Int) : Option (Bool) := if a0 ≥ 48 then (some (decide (a0 ≤ 57))) else (some false)
set_option maxHeartbeats 8000000 in
set_option maxRecDepth 100000 in
theorem spandrelref07_digit.calls (a0 : Int) (r : Bool) (w : World) (h : spandrelref07_digit.f a0 = some r) :
    Calls Try.prog 124 #[.int .u8 a0] w fun e w' => e = .returned (.bool r) ∧ Drawn0 w w' := by
  have H : (if a0 ≥ 48 then (some (decide (a0 ≤ 57))) else (some false)) = some r := h
  clear h
  by_cases c2 : a0 ≥ 48
  · rw [if_pos c2] at H
    have c2b0 : decide (48 ≤ a0) = true := decide_eq_true c2
    clear c2
    obtain rfl := Option.some.inj H
    go_enter Try.func124, Try.ntmps124
    go_wp2
    go_ret
    exact ⟨by first | rfl | (simp; done) | (simp [*]; done), by repeat (first | exact Drawn0.refl _ | apply Drawn0.step)⟩
  · rw [if_neg c2] at H
    have c2b0 : decide (48 ≤ a0) = false := decide_eq_false c2
    clear c2
    obtain rfl := Option.some.inj H
    go_enter Try.func124, Try.ntmps124
    go_wp2
    go_ret
    exact ⟨by first | rfl | (simp; done) | (simp [*]; done), by repeat (first | exact Drawn0.refl _ | apply Drawn0.step)⟩

end Go.Proofs.Ytbjddomocggjmaa.PFragcheckChecks
