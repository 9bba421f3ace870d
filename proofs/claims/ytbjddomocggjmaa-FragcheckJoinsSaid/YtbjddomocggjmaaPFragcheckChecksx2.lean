-- PRINTED BY print.sh 35421559b90ae4d0a3588c463048766b98c2df88dd9212a6774a882060cdf62d: not written by this session
import Derived.Test.YtbjddomocggjmaaPFragcheckChecksx0
import Derived.Test.YtbjddomocggjmaaPFragcheckChecksx1
namespace Go.Proofs.Ytbjddomocggjmaa.PFragcheckChecks
open Go.RowKit Go.Proofs.YtbjddomocggjmaaW.PrintWords Go.Proofs.YtbjddomocggjmaaW.PrintLast Go.Proofs.YtbjddomocggjmaaW.PrintMore
attribute [local go_sem] max2_int min2_int max_two min_two max_three min_three max_four min_four   -- for this text's walks alone
set_option linter.unusedVariables false
set_option linter.unusedSimpArgs false

/-! ### spandrelref07_Word: function 97 -/
mutual
def spandrelref07_Word.j0 : Nat → ByteArray → Bool → Option (Int)
  | 0, _, _ => none
  | k + 1, x0, x12 => if x12 = true then (some 0) else (spandrelref07_Word.l0 k x0 1)
def spandrelref07_Word.l0 : Nat → ByteArray → Int → Option (Int)
  | 0, _, _ => none
  | k + 1, x0, x3 => if x3 < (x0.size : Int) then (if 0 ≤ x3 then ((spandrelref07_letter.f (bt x0 x3)).bind fun t128 => (if t128 = true then (spandrelref07_Word.j2 k x0 x3 true) else ((spandrelref07_digit.f (bt x0 x3)).bind fun t129 => (spandrelref07_Word.j2 k x0 x3 t129)))) else (none)) else (some x3)
def spandrelref07_Word.j2 : Nat → ByteArray → Int → Bool → Option (Int)
  | 0, _, _, _ => none
  | k + 1, x0, x3, x26 => if x26 = true then (spandrelref07_Word.l0 k x0 (wrap64 (x3 + 1))) else (if 0 ≤ x3 then (if x3 < (x0.size : Int) then (if (bt x0 x3) = 45 then (if (wrap64 (x3 + 1)) < (x0.size : Int) then (if 0 ≤ (wrap64 (x3 + 1)) then (spandrelref07_Word.j3 k x0 x3 ((bt x0 (wrap64 (x3 + 1))) == 45)) else (none)) else (spandrelref07_Word.j3 k x0 x3 false)) else (spandrelref07_Word.j3 k x0 x3 true)) else (none)) else (none))
def spandrelref07_Word.j3 : Nat → ByteArray → Int → Bool → Option (Int)
  | 0, _, _, _ => none
  | k + 1, x0, x3, x46 => if x46 = true then (some x3) else (if (wrap64 (x3 + 1)) = (x0.size : Int) then (some (-1)) else (if 0 ≤ (wrap64 (x3 + 1)) then (if (wrap64 (x3 + 1)) < (x0.size : Int) then ((spandrelref07_letter.f (bt x0 (wrap64 (x3 + 1)))).bind fun t130 => (if t130 = true then (spandrelref07_Word.l0 k x0 (wrap64 (x3 + 1))) else ((spandrelref07_digit.f (bt x0 (wrap64 (x3 + 1)))).bind fun t131 => (if t131 = true then (spandrelref07_Word.l0 k x0 (wrap64 (x3 + 1))) else (some (-1)))))) else (none)) else (none)))
end
def spandrelref07_Word.f (k : Nat) (a0 : ByteArray) : Option (Int) := if (a0.size : Int) = 0 then (spandrelref07_Word.j0 k a0 true) else (if 0 < (a0.size : Int) then ((spandrelref07_letter.f (bt a0 0)).bind fun t127 => (spandrelref07_Word.j0 k a0 (!t127))) else (none))
theorem spandrelref07_Word.mono_l : ∀ k, (∀ y0 y1, LeO (spandrelref07_Word.j0 k y0 y1) (spandrelref07_Word.j0 (k + 1) y0 y1)) ∧ (∀ y0 y1, LeO (spandrelref07_Word.l0 k y0 y1) (spandrelref07_Word.l0 (k + 1) y0 y1)) ∧ (∀ y0 y1 y2, LeO (spandrelref07_Word.j2 k y0 y1 y2) (spandrelref07_Word.j2 (k + 1) y0 y1 y2)) ∧ (∀ y0 y1 y2, LeO (spandrelref07_Word.j3 k y0 y1 y2) (spandrelref07_Word.j3 (k + 1) y0 y1 y2))
  | 0 => ⟨fun _ _ r h => by simp [spandrelref07_Word.j0] at h, fun _ _ r h => by simp [spandrelref07_Word.l0] at h, fun _ _ _ r h => by simp [spandrelref07_Word.j2] at h, fun _ _ _ r h => by simp [spandrelref07_Word.j3] at h⟩
  | k + 1 => by
    obtain ⟨ih0, ih1, ih2, ih3⟩ := spandrelref07_Word.mono_l k
    refine ⟨?_, ?_, ?_, ?_⟩
    · intro y0 y1
      unfold spandrelref07_Word.j0
      repeat' first
      | (with_reducible exact ih0 _ _)
      | (with_reducible exact ih1 _ _)
      | (with_reducible exact ih2 _ _ _)
      | (with_reducible exact ih3 _ _ _)
      | (with_reducible exact LeO.refl _)
      | (with_reducible exact LeO.none _)
      | (with_reducible refine LeO.ite ?_ ?_)
      | (with_reducible refine LeO.bind ?_ (fun _ => ?_))
      | exact ih0 _ _
      | exact ih1 _ _
      | exact ih2 _ _ _
      | exact ih3 _ _ _
      | exact LeO.none _
      | refine LeO.ite ?_ ?_
      | refine LeO.bind ?_ (fun _ => ?_)
    · intro y0 y1
      unfold spandrelref07_Word.l0
      repeat' first
      | (with_reducible exact ih0 _ _)
      | (with_reducible exact ih1 _ _)
      | (with_reducible exact ih2 _ _ _)
      | (with_reducible exact ih3 _ _ _)
      | (with_reducible exact LeO.refl _)
      | (with_reducible exact LeO.none _)
      | (with_reducible refine LeO.ite ?_ ?_)
      | (with_reducible refine LeO.bind ?_ (fun _ => ?_))
      | exact ih0 _ _
      | exact ih1 _ _
      | exact ih2 _ _ _
      | exact ih3 _ _ _
      | exact LeO.none _
      | refine LeO.ite ?_ ?_
      | refine LeO.bind ?_ (fun _ => ?_)
    · intro y0 y1 y2
      unfold spandrelref07_Word.j2
      repeat' first
      | (with_reducible exact ih0 _ _)
      | (with_reducible exact ih1 _ _)
      | (with_reducible exact ih2 _ _ _)
      | (with_reducible exact ih3 _ _ _)
      | (with_reducible exact LeO.refl _)
      | (with_reducible exact LeO.none _)
      | (with_reducible refine LeO.ite ?_ ?_)
      | (with_reducible refine LeO.bind ?_ (fun _ => ?_))
      | exact ih0 _ _
      | exact ih1 _ _
      | exact ih2 _ _ _
      | exact ih3 _ _ _
      | exact LeO.none _
      | refine LeO.ite ?_ ?_
      | refine LeO.bind ?_ (fun _ => ?_)
    · intro y0 y1 y2
      unfold spandrelref07_Word.j3
      repeat' first
      | (with_reducible exact ih0 _ _)
      | (with_reducible exact ih1 _ _)
      | (with_reducible exact ih2 _ _ _)
      | (with_reducible exact ih3 _ _ _)
      | (with_reducible exact LeO.refl _)
      | (with_reducible exact LeO.none _)
      | (with_reducible refine LeO.ite ?_ ?_)
      | (with_reducible refine LeO.bind ?_ (fun _ => ?_))
      | exact ih0 _ _
      | exact ih1 _ _
      | exact ih2 _ _ _
      | exact ih3 _ _ _
      | exact LeO.none _
      | refine LeO.ite ?_ ?_
      | refine LeO.bind ?_ (fun _ => ?_)
theorem spandrelref07_Word.mono : ∀ a0 k, LeO (spandrelref07_Word.f k a0) (spandrelref07_Word.f (k + 1) a0) := by
  intro a0 k
  obtain ⟨ih0, ih1, ih2, ih3⟩ := spandrelref07_Word.mono_l k
  unfold spandrelref07_Word.f
  repeat' first
      | (with_reducible exact ih0 _ _)
      | (with_reducible exact ih1 _ _)
      | (with_reducible exact ih2 _ _ _)
      | (with_reducible exact ih3 _ _ _)
      | (with_reducible exact LeO.refl _)
      | (with_reducible exact LeO.none _)
      | (with_reducible refine LeO.ite ?_ ?_)
      | (with_reducible refine LeO.bind ?_ (fun _ => ?_))
      | exact ih0 _ _
      | exact ih1 _ _
      | exact ih2 _ _ _
      | exact ih3 _ _ _
      | exact LeO.none _
      | refine LeO.ite ?_ ?_
      | refine LeO.bind ?_ (fun _ => ?_)
set_option maxHeartbeats 8000000 in
set_option maxRecDepth 100000 in
theorem spandrelref07_Word.calls (k : Nat) (a0 : ByteArray) (r : Int) (w : World) (h : spandrelref07_Word.f k a0 = some r) :
    Calls Try.prog 97 #[.string a0] w fun e w' => e = .returned (.int .i64 r) ∧ Drawn0 w w' := by
  have H : (if (a0.size : Int) = 0 then (spandrelref07_Word.j0 k a0 true) else (if 0 < (a0.size : Int) then ((spandrelref07_letter.f (bt a0 0)).bind fun t127 => (spandrelref07_Word.j0 k a0 (!t127))) else (none))) = some r := h
  clear h
  have HC2 := Aside0.mk H
  clear H
  go_enter Try.func97, Try.ntmps97
  go_upto_region 1 with (fail)
  go_cut [12] (fun v12 wc => ∃ (kq : Nat) (x12_1 : Bool), v12 = .bool x12_1 ∧ Aside0 (spandrelref07_Word.j0 kq a0 x12_1 = some r) ∧ Aside0 (kq ≤ k) ∧ Drawn0 w wc)
  case first =>
    have H := HC2.out
    clear HC2
    by_cases c3 : (a0.size : Int) = 0
    · rw [if_pos c3] at H
      have c3b0 : ((a0.size : Int) == 0) = true := beq_iff_eq.mpr c3
      have c3b1 : ((a0.size : Int) != 0) = false := bne_eq_false_iff_eq.mpr c3
      clear c3
      (first | rw [c3b0] | (simp only [i64_w, i32_w]; rw [c3b0]) | skip)
      have H' := Aside0.mk H
      clear H
      go_wp2
      go_meet
      case rel => exact ⟨_, (true), (by first | rfl | (simp; done) | (simp [*]; done)), H', ⟨by first | omega | exact Nat.le_refl _⟩, by repeat (first | exact Drawn0.refl _ | apply Drawn0.step)⟩
    · rw [if_neg c3] at H
      have c3b0 : ((a0.size : Int) == 0) = false := beq_eq_false_iff_ne.mpr c3
      have c3b1 : ((a0.size : Int) != 0) = true := bne_iff_ne.mpr c3
      (first | rw [c3b0] | (simp only [i64_w, i32_w]; rw [c3b0]) | skip)
      by_cases c4 : 0 < (a0.size : Int)
      · rw [if_pos c4] at H
        have c4b0 : decide (0 < (a0.size : Int)) = true := decide_eq_true c4
        have c4b1 : decide (0 < a0.size) = true := decide_eq_true (by omega)
        clear c4
        replace H := Option.bind_eq_some_iff.mp H
        obtain ⟨t127, A60, H⟩ := H
        replace H : (spandrelref07_Word.j0 k a0 (!t127)) = some r := H
        have A6 := Aside0.mk A60
        clear A60
        have H' := Aside0.mk H
        clear H
        have p5 : 0 ≤ (0 : Int) := (by omega)
        have q5 : 0 < a0.size := (by have : (0 : Int) < (a0.size : Int) := of_decide_eq_true (by first | (with_reducible assumption) | assumption); omega)
        have hx5 : ∀ h : 0 < a0.size, ((a0[0]'h).toNat : Int) = bt a0 0 := bt_at a0 0
        clear p5
        have qi5 : (0 < (a0.size : Int)) = True := eq_true (of_decide_eq_true (by first | (with_reducible assumption) | assumption))
        replace q5 := eq_true q5
        go_wp2_with (first | (go_at_call 123; (with_reducible refine (spandrelref07_letter.calls (bt a0 0) t127 _ A6.out).mono ?_); rintro e w' ⟨rfl, ⟨nd, rfl⟩⟩))
        go_meet
        case rel => exact ⟨_, (!t127), (by first | rfl | (simp; done) | (simp [*]; done)), H', ⟨by first | omega | exact Nat.le_refl _⟩, by repeat (first | exact Drawn0.refl _ | apply Drawn0.step)⟩
      · rw [if_neg c4] at H
        exact absurd H (by simp)
  case rest =>
    clear HC2
    try clear p2
    try clear c3
    try clear c3b0
    try clear c3b1
    try clear c4
    try clear c4b0
    try clear c4b1
    try clear p5
    try clear q5
    try clear hx5
    try clear qi5
    try clear p5
    try clear q5
    obtain ⟨kq, x12_1, rfl, HA, HJ1, ⟨mc1, rfl⟩⟩ := hcut
    cases kq with
    | zero => exact absurd HA.out (by simp [spandrelref07_Word.j0])
    | succ kj1 =>
      have H := HA.out
      clear HA
      simp only [spandrelref07_Word.j0] at H
      by_cases c7 : x12_1 = true
      · subst c7
        have H1 : (some 0) = some r := by rw [if_pos rfl] at H; exact H
        clear H
        have H := H1
        clear H1
        obtain rfl := Option.some.inj H
        go_wp2
        go_ret
        exact ⟨by first | rfl | (simp; done) | (simp [*]; done), by repeat (first | exact Drawn0.refl _ | apply Drawn0.step)⟩
      · replace c7 := Bool.eq_false_iff.mpr c7
        subst c7
        have H1 : (spandrelref07_Word.l0 kj1 a0 1) = some r := by rw [if_neg (show ¬ (false = true) by decide)] at H; exact H
        clear H
        have H := H1
        clear H1
        have H' := Aside0.mk H
        clear H
        go_wp2
        go_loopg [3] kj1 (fun kq v3 w' => ∃ (x3_2 : Int), v3 = .int .i64 x3_2 ∧ Aside0 (spandrelref07_Word.l0 kq a0 x3_2 = some r) ∧ Aside0 (kq ≤ kj1) ∧ Drawn0 w w')
        case atStart => exact ⟨(1), (by first | rfl | (simp; done) | (simp [*]; done)), H', ⟨Nat.le_refl _⟩, by repeat (first | exact Drawn0.refl _ | apply Drawn0.step)⟩
        case round =>
          clear H'
          try clear c1
          try clear p2
          try clear c3
          try clear c3b0
          try clear c3b1
          try clear c4
          try clear c4b0
          try clear c4b1
          try clear p5
          try clear q5
          try clear hx5
          try clear qi5
          try clear c7
          try clear p2
          try clear p5
          try clear q5
          obtain ⟨x3_2, rfl, HA, HK2, ⟨m2, rfl⟩⟩ := hrel
          cases gk with
          | zero => exact absurd HA.out (by simp [spandrelref07_Word.l0])
          | succ k2 =>
            have H := HA.out
            clear HA
            simp only [spandrelref07_Word.l0] at H
            by_cases c8 : x3_2 < (a0.size : Int)
            · rw [if_pos c8] at H
              have c8b0 : decide (x3_2 < (a0.size : Int)) = true := decide_eq_true c8
              clear c8
              have HC9 := Aside0.mk H
              clear H
              go_upto_region 5 with (fail)
              go_cut [26] (fun v26 wc => ∃ (kq : Nat) (x26_8 : Bool), v26 = .bool x26_8 ∧ Aside0 (spandrelref07_Word.j2 kq a0 x3_2 x26_8 = some r) ∧ Aside0 (kq ≤ k2) ∧ Drawn0 w wc)
              case first =>
                have H := HC9.out
                clear HC9
                by_cases c10 : 0 ≤ x3_2
                · rw [if_pos c10] at H
                  have c10b0 : decide (0 ≤ x3_2) = true := decide_eq_true c10
                  clear c10
                  (first | rw [c10b0] | (simp only [i64_w, i32_w]; rw [c10b0]) | skip)
                  replace H := Option.bind_eq_some_iff.mp H
                  obtain ⟨t128, A120, H⟩ := H
                  replace H : (if t128 = true then (spandrelref07_Word.j2 k2 a0 x3_2 true) else ((spandrelref07_digit.f (bt a0 x3_2)).bind fun t129 => (spandrelref07_Word.j2 k2 a0 x3_2 t129))) = some r := H
                  have A12 := Aside0.mk A120
                  clear A120
                  by_cases c13 : t128 = true
                  · subst c13
                    have H1 : (spandrelref07_Word.j2 k2 a0 x3_2 true) = some r := by rw [if_pos rfl] at H; exact H
                    clear H
                    have H := H1
                    clear H1
                    have H' := Aside0.mk H
                    clear H
                    have p11 : 0 ≤ (x3_2 : Int) := of_decide_eq_true (by first | (with_reducible assumption) | assumption)
                    have q11 : x3_2 < (a0.size : Int) := of_decide_eq_true (by first | (with_reducible assumption) | assumption)
                    have hx11 := bt_at a0 x3_2
                    replace p11 := eq_true p11
                    replace q11 := eq_true q11
                    go_wp2_with (first | ((with_reducible refine gate_callee (f := 123) rfl ?_); refine goesL_ (some 20) rfl rfl Try.func123 (by kernel_rfl) rfl #[.int .u8 (bt a0 x3_2)] rfl (by (try simp only [List.map_toArray, List.map_cons, List.map_nil]); first | done | rfl | (simp only [List.length_drop, List.length_take]; rfl)) ?_; (with_reducible refine (spandrelref07_letter.calls (bt a0 x3_2) true _ A12.out).mono ?_); rintro e w' ⟨rfl, ⟨nd, rfl⟩⟩; refine ⟨_, rfl, ?_⟩))
                    go_meet
                    case rel => exact ⟨_, (true), (by first | rfl | (simp; done) | (simp [*]; done)), H', ⟨by have := HJ1.out; have := HK2.out; first | omega | exact Nat.le_refl _⟩, by repeat (first | exact Drawn0.refl _ | apply Drawn0.step)⟩
                  · replace c13 := Bool.eq_false_iff.mpr c13
                    subst c13
                    have H1 : ((spandrelref07_digit.f (bt a0 x3_2)).bind fun t129 => (spandrelref07_Word.j2 k2 a0 x3_2 t129)) = some r := by rw [if_neg (show ¬ (false = true) by decide)] at H; exact H
                    clear H
                    have H := H1
                    clear H1
                    replace H := Option.bind_eq_some_iff.mp H
                    obtain ⟨t129, A150, H⟩ := H
                    replace H : (spandrelref07_Word.j2 k2 a0 x3_2 t129) = some r := H
                    have A15 := Aside0.mk A150
                    clear A150
                    have H' := Aside0.mk H
                    clear H
                    have p11 : 0 ≤ (x3_2 : Int) := of_decide_eq_true (by first | (with_reducible assumption) | assumption)
                    have q11 : x3_2 < (a0.size : Int) := of_decide_eq_true (by first | (with_reducible assumption) | assumption)
                    have hx11 := bt_at a0 x3_2
                    replace p11 := eq_true p11
                    replace q11 := eq_true q11
                    go_wp2_with (first | ((with_reducible refine gate_callee (f := 123) rfl ?_); refine goesL_ (some 20) rfl rfl Try.func123 (by kernel_rfl) rfl #[.int .u8 (bt a0 x3_2)] rfl (by (try simp only [List.map_toArray, List.map_cons, List.map_nil]); first | done | rfl | (simp only [List.length_drop, List.length_take]; rfl)) ?_; (with_reducible refine (spandrelref07_letter.calls (bt a0 x3_2) false _ A12.out).mono ?_); rintro e w' ⟨rfl, ⟨nd, rfl⟩⟩; refine ⟨_, rfl, ?_⟩; have p14 : 0 ≤ (x3_2 : Int) := of_decide_eq_true (by first | (with_reducible assumption) | assumption); have q14 : x3_2 < (a0.size : Int) := of_decide_eq_true (by first | (with_reducible assumption) | assumption); have hx14 := bt_at a0 x3_2; replace p14 := eq_true p14; replace q14 := eq_true q14) | (go_at_call 124; (with_reducible refine (spandrelref07_digit.calls (bt a0 x3_2) t129 _ A15.out).mono ?_); rintro e w' ⟨rfl, ⟨nd, rfl⟩⟩))
                    go_meet
                    case rel => exact ⟨_, (t129), (by first | rfl | (simp; done) | (simp [*]; done)), H', ⟨by have := HJ1.out; have := HK2.out; first | omega | exact Nat.le_refl _⟩, by repeat (first | exact Drawn0.refl _ | apply Drawn0.step)⟩
                · rw [if_neg c10] at H
                  exact absurd H (by simp)
              case rest =>
                clear HC9
                try clear c1
                try clear p1
                try clear q1
                try clear hx1
                try clear p2
                try clear c3
                try clear c3b0
                try clear c3b1
                try clear c4
                try clear c4b0
                try clear c4b1
                try clear p5
                try clear q5
                try clear hx5
                try clear qi5
                try clear c7
                try clear c8
                try clear c8b0
                try clear c9
                try clear c10
                try clear c10b0
                try clear p11
                try clear q11
                try clear hx11
                try clear c12
                try clear c13
                try clear p14
                try clear q14
                try clear hx14
                try clear p11
                try clear p14
                try clear p2
                try clear p5
                try clear q11
                try clear q14
                try clear q5
                obtain ⟨kq, x26_8, rfl, HA, HJ8, ⟨mc8, rfl⟩⟩ := hcut
                cases kq with
                | zero => exact absurd HA.out (by simp [spandrelref07_Word.j2])
                | succ kj8 =>
                  have H := HA.out
                  clear HA
                  simp only [spandrelref07_Word.j2] at H
                  by_cases c16 : x26_8 = true
                  · subst c16
                    have H1 : (spandrelref07_Word.l0 kj8 a0 (wrap64 (x3_2 + 1))) = some r := by rw [if_pos rfl] at H; exact H
                    clear H
                    have H := H1
                    clear H1
                    have H' := Aside0.mk H
                    clear H
                    go_wp2
                    go_roundg kj8
                    case measure => have := HJ1.out; have := HK2.out; have := HJ8.out; omega
                    case rel => exact ⟨(wrap64 (x3_2 + 1)), (by first | rfl | (simp; done) | (simp [*]; done)), H', ⟨by have := HJ1.out; have := HK2.out; have := HJ8.out; omega⟩, by repeat (first | exact Drawn0.refl _ | apply Drawn0.step)⟩
                  · replace c16 := Bool.eq_false_iff.mpr c16
                    subst c16
                    have H1 : (if 0 ≤ x3_2 then (if x3_2 < (a0.size : Int) then (if (bt a0 x3_2) = 45 then (if (wrap64 (x3_2 + 1)) < (a0.size : Int) then (if 0 ≤ (wrap64 (x3_2 + 1)) then (spandrelref07_Word.j3 kj8 a0 x3_2 ((bt a0 (wrap64 (x3_2 + 1))) == 45)) else (none)) else (spandrelref07_Word.j3 kj8 a0 x3_2 false)) else (spandrelref07_Word.j3 kj8 a0 x3_2 true)) else (none)) else (none)) = some r := by rw [if_neg (show ¬ (false = true) by decide)] at H; exact H
                    clear H
                    have H := H1
                    clear H1
                    have HC17 := Aside0.mk H
                    clear H
                    go_upto_region 7 with (fail)
                    go_cut [46] (fun v46 wc => ∃ (kq : Nat) (x46_16 : Bool), v46 = .bool x46_16 ∧ Aside0 (spandrelref07_Word.j3 kq a0 x3_2 x46_16 = some r) ∧ Aside0 (kq ≤ kj8) ∧ Drawn0 w wc)
                    case first =>
                      have H := HC17.out
                      clear HC17
                      by_cases c18 : 0 ≤ x3_2
                      · rw [if_pos c18] at H
                        have c18b0 : decide (0 ≤ x3_2) = true := decide_eq_true c18
                        clear c18
                        (first | rw [c18b0] | (simp only [i64_w, i32_w]; rw [c18b0]) | skip)
                        by_cases c19 : x3_2 < (a0.size : Int)
                        · rw [if_pos c19] at H
                          have c19b0 : decide (x3_2 < (a0.size : Int)) = true := decide_eq_true c19
                          clear c19
                          by_cases c21 : (bt a0 x3_2) = 45
                          · rw [if_pos c21] at H
                            have c21b0 : ((bt a0 x3_2) == 45) = true := beq_iff_eq.mpr c21
                            have c21b1 : ((bt a0 x3_2) != 45) = false := bne_eq_false_iff_eq.mpr c21
                            clear c21
                            by_cases c22 : (wrap64 (x3_2 + 1)) < (a0.size : Int)
                            · rw [if_pos c22] at H
                              have c22b0 : decide ((wrap64 (x3_2 + 1)) < (a0.size : Int)) = true := decide_eq_true c22
                              clear c22
                              obtain ⟨ji23, hji23⟩ : ∃ j_ : Int, (wrap64 (x3_2 + 1)) = j_ := ⟨_, rfl⟩
                              replace H : (if 0 ≤ (ji23) then (spandrelref07_Word.j3 kj8 a0 x3_2 ((bt a0 (ji23)) == 45)) else (none)) = some r := by first | (rw [hji23] at H; exact H) | (simp only [hji23] at H ⊢; exact H)
                              (try rw [hji23] at c22b0)
                              have hji23w : (IntKind.i64.wrap (x3_2 + 1)) = ji23 := (i64_w _).trans hji23
                              by_cases c24 : 0 ≤ (ji23)
                              · rw [if_pos c24] at H
                                have c24b0 : decide (0 ≤ (ji23)) = true := decide_eq_true c24
                                clear c24
                                have H' := Aside0.mk H
                                clear H
                                have p20 : 0 ≤ (x3_2 : Int) := of_decide_eq_true (by first | (with_reducible assumption) | assumption)
                                have q20 : x3_2 < (a0.size : Int) := of_decide_eq_true (by first | (with_reducible assumption) | assumption)
                                have hx20 := bt_at a0 x3_2
                                replace p20 := eq_true p20
                                replace q20 := eq_true q20
                                have p25 : 0 ≤ ((ji23) : Int) := of_decide_eq_true (by first | (with_reducible assumption) | assumption)
                                have q25 : (ji23) < (a0.size : Int) := of_decide_eq_true (by first | (with_reducible assumption) | assumption)
                                have hx25 := bt_at a0 (ji23)
                                replace p25 := eq_true p25
                                replace q25 := eq_true q25
                                go_wp2
                                go_meet
                                case rel => exact ⟨_, (((bt a0 (ji23)) == 45)), (by first | rfl | (simp; done) | (simp only [← hji23] <;> (first | rfl | simp)) | (simp [*]; done)), H', ⟨by have := HJ1.out; have := HK2.out; have := HJ8.out; first | omega | exact Nat.le_refl _⟩, by repeat (first | exact Drawn0.refl _ | apply Drawn0.step)⟩
                              · rw [if_neg c24] at H
                                exact absurd H (by simp)
                            · rw [if_neg c22] at H
                              have c22b0 : decide ((wrap64 (x3_2 + 1)) < (a0.size : Int)) = false := decide_eq_false c22
                              clear c22
                              have H' := Aside0.mk H
                              clear H
                              have p20 : 0 ≤ (x3_2 : Int) := of_decide_eq_true (by first | (with_reducible assumption) | assumption)
                              have q20 : x3_2 < (a0.size : Int) := of_decide_eq_true (by first | (with_reducible assumption) | assumption)
                              have hx20 := bt_at a0 x3_2
                              replace p20 := eq_true p20
                              replace q20 := eq_true q20
                              go_wp2
                              go_meet
                              case rel => exact ⟨_, (false), (by first | rfl | (simp; done) | (simp [*]; done)), H', ⟨by have := HJ1.out; have := HK2.out; have := HJ8.out; first | omega | exact Nat.le_refl _⟩, by repeat (first | exact Drawn0.refl _ | apply Drawn0.step)⟩
                          · rw [if_neg c21] at H
                            have c21b0 : ((bt a0 x3_2) == 45) = false := beq_eq_false_iff_ne.mpr c21
                            have c21b1 : ((bt a0 x3_2) != 45) = true := bne_iff_ne.mpr c21
                            have H' := Aside0.mk H
                            clear H
                            have p20 : 0 ≤ (x3_2 : Int) := of_decide_eq_true (by first | (with_reducible assumption) | assumption)
                            have q20 : x3_2 < (a0.size : Int) := of_decide_eq_true (by first | (with_reducible assumption) | assumption)
                            have hx20 := bt_at a0 x3_2
                            replace p20 := eq_true p20
                            replace q20 := eq_true q20
                            go_wp2
                            go_meet
                            case rel => exact ⟨_, (true), (by first | rfl | (simp; done) | (simp [*]; done)), H', ⟨by have := HJ1.out; have := HK2.out; have := HJ8.out; first | omega | exact Nat.le_refl _⟩, by repeat (first | exact Drawn0.refl _ | apply Drawn0.step)⟩
                        · rw [if_neg c19] at H
                          exact absurd H (by simp)
                      · rw [if_neg c18] at H
                        exact absurd H (by simp)
                    case rest =>
                      clear HC17
                      try clear c1
                      try clear p1
                      try clear q1
                      try clear hx1
                      try clear c2
                      try clear p2
                      try clear q2
                      try clear hx2
                      try clear c3
                      try clear c3b0
                      try clear c3b1
                      try clear c4
                      try clear c4b0
                      try clear c4b1
                      try clear p5
                      try clear q5
                      try clear hx5
                      try clear qi5
                      try clear p6
                      try clear c7
                      try clear c8
                      try clear c8b0
                      try clear c9
                      try clear c10
                      try clear c10b0
                      try clear p11
                      try clear q11
                      try clear hx11
                      try clear c12
                      try clear c13
                      try clear p14
                      try clear q14
                      try clear hx14
                      try clear c16
                      try clear c18
                      try clear c18b0
                      try clear c19
                      try clear c19b0
                      try clear p20
                      try clear q20
                      try clear hx20
                      try clear c21
                      try clear c21b0
                      try clear c21b1
                      try clear c22
                      try clear c22b0
                      try clear c24
                      try clear c24b0
                      try clear p25
                      try clear q25
                      try clear hx25
                      try clear p1
                      try clear p11
                      try clear p14
                      try clear p2
                      try clear p20
                      try clear p25
                      try clear p5
                      try clear q1
                      try clear q11
                      try clear q14
                      try clear q20
                      try clear q25
                      try clear q5
                      obtain ⟨kq, x46_16, rfl, HA, HJ16, ⟨mc16, rfl⟩⟩ := hcut
                      cases kq with
                      | zero => exact absurd HA.out (by simp [spandrelref07_Word.j3])
                      | succ kj16 =>
                        have H := HA.out
                        clear HA
                        simp only [spandrelref07_Word.j3] at H
                        by_cases c26 : x46_16 = true
                        · subst c26
                          have H1 : (some x3_2) = some r := by rw [if_pos rfl] at H; exact H
                          clear H
                          have H := H1
                          clear H1
                          obtain rfl := Option.some.inj H
                          go_wp2
                          go_ret
                          exact ⟨by first | rfl | (simp; done) | (simp [*]; done), by repeat (first | exact Drawn0.refl _ | apply Drawn0.step)⟩
                        · replace c26 := Bool.eq_false_iff.mpr c26
                          subst c26
                          have H1 : (if (wrap64 (x3_2 + 1)) = (a0.size : Int) then (some (-1)) else (if 0 ≤ (wrap64 (x3_2 + 1)) then (if (wrap64 (x3_2 + 1)) < (a0.size : Int) then ((spandrelref07_letter.f (bt a0 (wrap64 (x3_2 + 1)))).bind fun t130 => (if t130 = true then (spandrelref07_Word.l0 kj16 a0 (wrap64 (x3_2 + 1))) else ((spandrelref07_digit.f (bt a0 (wrap64 (x3_2 + 1)))).bind fun t131 => (if t131 = true then (spandrelref07_Word.l0 kj16 a0 (wrap64 (x3_2 + 1))) else (some (-1)))))) else (none)) else (none))) = some r := by rw [if_neg (show ¬ (false = true) by decide)] at H; exact H
                          clear H
                          have H := H1
                          clear H1
                          by_cases c27 : (wrap64 (x3_2 + 1)) = (a0.size : Int)
                          · rw [if_pos c27] at H
                            have c27b0 : ((wrap64 (x3_2 + 1)) == (a0.size : Int)) = true := beq_iff_eq.mpr c27
                            have c27b1 : ((wrap64 (x3_2 + 1)) != (a0.size : Int)) = false := bne_eq_false_iff_eq.mpr c27
                            clear c27
                            obtain rfl := Option.some.inj H
                            go_wp2
                            go_ret
                            exact ⟨by first | rfl | (simp; done) | (simp [*]; done), by repeat (first | exact Drawn0.refl _ | apply Drawn0.step)⟩
                          · rw [if_neg c27] at H
                            have c27b0 : ((wrap64 (x3_2 + 1)) == (a0.size : Int)) = false := beq_eq_false_iff_ne.mpr c27
                            have c27b1 : ((wrap64 (x3_2 + 1)) != (a0.size : Int)) = true := bne_iff_ne.mpr c27
                            obtain ⟨ji28, hji28⟩ : ∃ j_ : Int, (wrap64 (x3_2 + 1)) = j_ := ⟨_, rfl⟩
                            replace H : (if 0 ≤ (ji28) then (if (ji28) < (a0.size : Int) then ((spandrelref07_letter.f (bt a0 (ji28))).bind fun t130 => (if t130 = true then (spandrelref07_Word.l0 kj16 a0 ji28) else ((spandrelref07_digit.f (bt a0 (ji28))).bind fun t131 => (if t131 = true then (spandrelref07_Word.l0 kj16 a0 ji28) else (some (-1)))))) else (none)) else (none)) = some r := by first | (rw [hji28] at H; exact H) | (simp only [hji28] at H ⊢; exact H)
                            (try rw [hji28] at c27b0)
                            (try rw [hji28] at c27b1)
                            have hji28w : (IntKind.i64.wrap (x3_2 + 1)) = ji28 := (i64_w _).trans hji28
                            by_cases c29 : 0 ≤ (ji28)
                            · rw [if_pos c29] at H
                              have c29b0 : decide (0 ≤ (ji28)) = true := decide_eq_true c29
                              clear c29
                              by_cases c30 : (ji28) < (a0.size : Int)
                              · rw [if_pos c30] at H
                                have c30b0 : decide ((ji28) < (a0.size : Int)) = true := decide_eq_true c30
                                clear c30
                                replace H := Option.bind_eq_some_iff.mp H
                                obtain ⟨t130, A320, H⟩ := H
                                replace H : (if t130 = true then (spandrelref07_Word.l0 kj16 a0 ji28) else ((spandrelref07_digit.f (bt a0 (ji28))).bind fun t131 => (if t131 = true then (spandrelref07_Word.l0 kj16 a0 ji28) else (some (-1))))) = some r := H
                                have A32 := Aside0.mk A320
                                clear A320
                                by_cases c33 : t130 = true
                                · subst c33
                                  have H1 : (spandrelref07_Word.l0 kj16 a0 ji28) = some r := by rw [if_pos rfl] at H; exact H
                                  clear H
                                  have H := H1
                                  clear H1
                                  have H' := Aside0.mk H
                                  clear H
                                  have p31 : 0 ≤ ((ji28) : Int) := of_decide_eq_true (by first | (with_reducible assumption) | assumption)
                                  have q31 : (ji28) < (a0.size : Int) := of_decide_eq_true (by first | (with_reducible assumption) | assumption)
                                  have hx31 := bt_at a0 (ji28)
                                  replace p31 := eq_true p31
                                  replace q31 := eq_true q31
                                  go_wp2_with (first | (go_at_call 123; (with_reducible refine (spandrelref07_letter.calls (bt a0 (ji28)) true _ A32.out).mono ?_); rintro e w' ⟨rfl, ⟨nd, rfl⟩⟩))
                                  go_roundg kj16
                                  case measure => have := HJ1.out; have := HK2.out; have := HJ8.out; have := HJ16.out; omega
                                  case rel => exact ⟨(ji28), (by first | rfl | (simp; done) | (simp only [← hji28] <;> (first | rfl | simp)) | (simp [*]; done)), H', ⟨by have := HJ1.out; have := HK2.out; have := HJ8.out; have := HJ16.out; omega⟩, by repeat (first | exact Drawn0.refl _ | apply Drawn0.step)⟩
                                · replace c33 := Bool.eq_false_iff.mpr c33
                                  subst c33
                                  have H1 : ((spandrelref07_digit.f (bt a0 (ji28))).bind fun t131 => (if t131 = true then (spandrelref07_Word.l0 kj16 a0 ji28) else (some (-1)))) = some r := by rw [if_neg (show ¬ (false = true) by decide)] at H; exact H
                                  clear H
                                  have H := H1
                                  clear H1
                                  replace H := Option.bind_eq_some_iff.mp H
                                  obtain ⟨t131, A350, H⟩ := H
                                  replace H : (if t131 = true then (spandrelref07_Word.l0 kj16 a0 ji28) else (some (-1))) = some r := H
                                  have A35 := Aside0.mk A350
                                  clear A350
                                  by_cases c36 : t131 = true
                                  · subst c36
                                    have H1 : (spandrelref07_Word.l0 kj16 a0 ji28) = some r := by rw [if_pos rfl] at H; exact H
                                    clear H
                                    have H := H1
                                    clear H1
                                    have H' := Aside0.mk H
                                    clear H
                                    have p31 : 0 ≤ ((ji28) : Int) := of_decide_eq_true (by first | (with_reducible assumption) | assumption)
                                    have q31 : (ji28) < (a0.size : Int) := of_decide_eq_true (by first | (with_reducible assumption) | assumption)
                                    have hx31 := bt_at a0 (ji28)
                                    replace p31 := eq_true p31
                                    replace q31 := eq_true q31
                                    go_wp2_with (first | (go_at_call 123; (with_reducible refine (spandrelref07_letter.calls (bt a0 (ji28)) false _ A32.out).mono ?_); rintro e w' ⟨rfl, ⟨nd, rfl⟩⟩; have p34 : 0 ≤ ((ji28) : Int) := of_decide_eq_true (by first | (with_reducible assumption) | assumption); have q34 : (ji28) < (a0.size : Int) := of_decide_eq_true (by first | (with_reducible assumption) | assumption); have hx34 := bt_at a0 (ji28); replace p34 := eq_true p34; replace q34 := eq_true q34) | (go_at_call 124; (with_reducible refine (spandrelref07_digit.calls (bt a0 (ji28)) true _ A35.out).mono ?_); rintro e w' ⟨rfl, ⟨nd, rfl⟩⟩))
                                    go_roundg kj16
                                    case measure => have := HJ1.out; have := HK2.out; have := HJ8.out; have := HJ16.out; omega
                                    case rel => exact ⟨(ji28), (by first | rfl | (simp; done) | (simp only [← hji28] <;> (first | rfl | simp)) | (simp [*]; done)), H', ⟨by have := HJ1.out; have := HK2.out; have := HJ8.out; have := HJ16.out; omega⟩, by repeat (first | exact Drawn0.refl _ | apply Drawn0.step)⟩
                                  · replace c36 := Bool.eq_false_iff.mpr c36
                                    subst c36
                                    have H1 : (some (-1)) = some r := by rw [if_neg (show ¬ (false = true) by decide)] at H; exact H
                                    clear H
                                    have H := H1
                                    clear H1
                                    obtain rfl := Option.some.inj H
                                    have p31 : 0 ≤ ((ji28) : Int) := of_decide_eq_true (by first | (with_reducible assumption) | assumption)
                                    have q31 : (ji28) < (a0.size : Int) := of_decide_eq_true (by first | (with_reducible assumption) | assumption)
                                    have hx31 := bt_at a0 (ji28)
                                    replace p31 := eq_true p31
                                    replace q31 := eq_true q31
                                    go_wp2_with (first | (go_at_call 123; (with_reducible refine (spandrelref07_letter.calls (bt a0 (ji28)) false _ A32.out).mono ?_); rintro e w' ⟨rfl, ⟨nd, rfl⟩⟩; have p34 : 0 ≤ ((ji28) : Int) := of_decide_eq_true (by first | (with_reducible assumption) | assumption); have q34 : (ji28) < (a0.size : Int) := of_decide_eq_true (by first | (with_reducible assumption) | assumption); have hx34 := bt_at a0 (ji28); replace p34 := eq_true p34; replace q34 := eq_true q34) | (go_at_call 124; (with_reducible refine (spandrelref07_digit.calls (bt a0 (ji28)) false _ A35.out).mono ?_); rintro e w' ⟨rfl, ⟨nd, rfl⟩⟩))
                                    go_ret
                                    exact ⟨by first | rfl | (simp; done) | (simp only [← hji28] <;> (first | rfl | simp)) | (simp [*]; done), by repeat (first | exact Drawn0.refl _ | apply Drawn0.step)⟩
                              · rw [if_neg c30] at H
                                exact absurd H (by simp)
                            · rw [if_neg c29] at H
                              exact absurd H (by simp)
            · rw [if_neg c8] at H
              have c8b0 : decide (x3_2 < (a0.size : Int)) = false := decide_eq_false c8
              clear c8
              obtain rfl := Option.some.inj H
              go_wp2
              go_ret
              exact ⟨by first | rfl | (simp; done) | (simp [*]; done), by repeat (first | exact Drawn0.refl _ | apply Drawn0.step)⟩

/-! ### spandrelref07_Lower: function 99 -/
def spandrelref07_Lower.f (k : Nat) (a0 : ByteArray) : Option (Bool) := if (a0.size : Int) > 0 then ((spandrelref07_Word.f k a0).bind fun t132 => (if t132 = (a0.size : Int) then (if 0 < (a0.size : Int) then (some (decide ((bt a0 0) ≥ 97))) else (none)) else (some false))) else (some false)
theorem spandrelref07_Lower.mono : ∀ a0 k, LeO (spandrelref07_Lower.f k a0) (spandrelref07_Lower.f (k + 1) a0) := by
  intro a0 k
  unfold spandrelref07_Lower.f
  repeat' first
      | (with_reducible exact spandrelref07_Word.mono _ _)
      | (with_reducible exact LeO.refl _)
      | (with_reducible exact LeO.none _)
      | (with_reducible refine LeO.ite ?_ ?_)
      | (with_reducible refine LeO.bind ?_ (fun _ => ?_))
      | exact spandrelref07_Word.mono _ _
      | exact LeO.none _
      | refine LeO.ite ?_ ?_
      | refine LeO.bind ?_ (fun _ => ?_)
set_option maxHeartbeats 8000000 in
set_option maxRecDepth 100000 in
theorem spandrelref07_Lower.calls (k : Nat) (a0 : ByteArray) (r : Bool) (w : World) (h : spandrelref07_Lower.f k a0 = some r) :
    Calls Try.prog 99 #[.string a0] w fun e w' => e = .returned (.bool r) ∧ Drawn0 w w' := by
  have H : (if (a0.size : Int) > 0 then ((spandrelref07_Word.f k a0).bind fun t132 => (if t132 = (a0.size : Int) then (if 0 < (a0.size : Int) then (some (decide ((bt a0 0) ≥ 97))) else (none)) else (some false))) else (some false)) = some r := h
  clear h
  by_cases c2 : (a0.size : Int) > 0
  · rw [if_pos c2] at H
    have c2b0 : decide (0 < (a0.size : Int)) = true := decide_eq_true c2
    have c2b1 : decide (0 < a0.size) = true := decide_eq_true (by omega)
    clear c2
    replace H := Option.bind_eq_some_iff.mp H
    obtain ⟨t132, A30, H⟩ := H
    replace H : (if t132 = (a0.size : Int) then (if 0 < (a0.size : Int) then (some (decide ((bt a0 0) ≥ 97))) else (none)) else (some false)) = some r := H
    have A3 := Aside0.mk A30
    clear A30
    by_cases c4 : t132 = (a0.size : Int)
    · rw [if_pos c4] at H
      have c4b0 : (t132 == (a0.size : Int)) = true := beq_iff_eq.mpr c4
      have c4b1 : (t132 != (a0.size : Int)) = false := bne_eq_false_iff_eq.mpr c4
      clear c4
      by_cases c5 : 0 < (a0.size : Int)
      · rw [if_pos c5] at H
        have c5b0 : decide (0 < (a0.size : Int)) = true := decide_eq_true c5
        have c5b1 : decide (0 < a0.size) = true := decide_eq_true (by omega)
        clear c5
        obtain rfl := Option.some.inj H
        go_enter Try.func99, Try.ntmps99
        go_wp2_with (first | (go_at_call 97; (with_reducible refine (spandrelref07_Word.calls k a0 t132 _ A3.out).mono ?_); rintro e w' ⟨rfl, ⟨nd, rfl⟩⟩; have p6 : 0 ≤ (0 : Int) := (by omega); have q6 : 0 < a0.size := (by have : (0 : Int) < (a0.size : Int) := of_decide_eq_true (by first | (with_reducible assumption) | assumption); omega); have hx6 : ∀ h : 0 < a0.size, ((a0[0]'h).toNat : Int) = bt a0 0 := bt_at a0 0; clear p6; have qi6 : (0 < (a0.size : Int)) = True := eq_true (of_decide_eq_true (by first | (with_reducible assumption) | assumption)); replace q6 := eq_true q6))
        go_ret
        exact ⟨by first | rfl | (simp; done) | (simp [*]; done), by repeat (first | exact Drawn0.refl _ | apply Drawn0.step)⟩
      · rw [if_neg c5] at H
        exact absurd H (by simp)
    · rw [if_neg c4] at H
      have c4b0 : (t132 == (a0.size : Int)) = false := beq_eq_false_iff_ne.mpr c4
      have c4b1 : (t132 != (a0.size : Int)) = true := bne_iff_ne.mpr c4
      obtain rfl := Option.some.inj H
      go_enter Try.func99, Try.ntmps99
      go_wp2_with (first | (go_at_call 97; (with_reducible refine (spandrelref07_Word.calls k a0 t132 _ A3.out).mono ?_); rintro e w' ⟨rfl, ⟨nd, rfl⟩⟩))
      go_ret
      exact ⟨by first | rfl | (simp; done) | (simp [*]; done), by repeat (first | exact Drawn0.refl _ | apply Drawn0.step)⟩
  · rw [if_neg c2] at H
    have c2b0 : decide (0 < (a0.size : Int)) = false := decide_eq_false c2
    have c2b1 : decide (0 < a0.size) = false := decide_eq_false (by omega)
    clear c2
    obtain rfl := Option.some.inj H
    go_enter Try.func99, Try.ntmps99
    go_wp2
    go_ret
    exact ⟨by first | rfl | (simp; done) | (simp [*]; done), by repeat (first | exact Drawn0.refl _ | apply Drawn0.step)⟩

/-! ### spandrelref18_plain: function 100 -/
def spandrelref18_plain.l0 : Nat → ByteArray → Int → Option (Bool)
  | 0, _, _ => none
  | k + 1, x0, x3 => if x3 < (x0.size : Int) then (if 0 ≤ x3 then (if (bt x0 x3) = 45 then (some false) else (spandrelref18_plain.l0 k x0 (wrap64 (x3 + 1)))) else (none)) else (some true)
def spandrelref18_plain.f (k : Nat) (a0 : ByteArray) : Option (Bool) := spandrelref18_plain.l0 k a0 0
theorem spandrelref18_plain.mono_l : ∀ k, (∀ y0 y1, LeO (spandrelref18_plain.l0 k y0 y1) (spandrelref18_plain.l0 (k + 1) y0 y1))
  | 0 => fun _ _ r h => by simp [spandrelref18_plain.l0] at h
  | k + 1 => by
    have ih0 := spandrelref18_plain.mono_l k
    · intro y0 y1
      unfold spandrelref18_plain.l0
      repeat' first
      | (with_reducible exact ih0 _ _)
      | (with_reducible exact LeO.refl _)
      | (with_reducible exact LeO.none _)
      | (with_reducible refine LeO.ite ?_ ?_)
      | (with_reducible refine LeO.bind ?_ (fun _ => ?_))
      | exact ih0 _ _
      | exact LeO.none _
      | refine LeO.ite ?_ ?_
      | refine LeO.bind ?_ (fun _ => ?_)
theorem spandrelref18_plain.mono : ∀ a0 k, LeO (spandrelref18_plain.f k a0) (spandrelref18_plain.f (k + 1) a0) := by
  intro a0 k
  have ih0 := spandrelref18_plain.mono_l k
  unfold spandrelref18_plain.f
  repeat' first
      | (with_reducible exact ih0 _ _)
      | (with_reducible exact LeO.refl _)
      | (with_reducible exact LeO.none _)
      | (with_reducible refine LeO.ite ?_ ?_)
      | (with_reducible refine LeO.bind ?_ (fun _ => ?_))
      | exact ih0 _ _
      | exact LeO.none _
      | refine LeO.ite ?_ ?_
      | refine LeO.bind ?_ (fun _ => ?_)
set_option maxHeartbeats 8000000 in
set_option maxRecDepth 100000 in
theorem spandrelref18_plain.calls (k : Nat) (a0 : ByteArray) (r : Bool) (w : World) (h : spandrelref18_plain.f k a0 = some r) :
    Calls Try.prog 100 #[.string a0] w fun e w' => e = .returned (.bool r) ∧ Drawn0 w w' := by
  have H : (spandrelref18_plain.l0 k a0 0) = some r := h
  clear h
  have H' := Aside0.mk H
  clear H
  go_enter Try.func100, Try.ntmps100
  go_wp2
  go_loopg [3] k (fun kq v3 w' => ∃ (x3_1 : Int), v3 = .int .i64 x3_1 ∧ Aside0 (spandrelref18_plain.l0 kq a0 x3_1 = some r) ∧ Aside0 (kq ≤ k) ∧ Drawn0 w w')
  case atStart => exact ⟨(0), (by first | rfl | (simp; done) | (simp [*]; done)), H', ⟨Nat.le_refl _⟩, by repeat (first | exact Drawn0.refl _ | apply Drawn0.step)⟩
  case round =>
    clear H'
    try clear c1
    obtain ⟨x3_1, rfl, HA, HK1, ⟨m1, rfl⟩⟩ := hrel
    cases gk with
    | zero => exact absurd HA.out (by simp [spandrelref18_plain.l0])
    | succ k1 =>
      have H := HA.out
      clear HA
      simp only [spandrelref18_plain.l0] at H
      by_cases c2 : x3_1 < (a0.size : Int)
      · rw [if_pos c2] at H
        have c2b0 : decide (x3_1 < (a0.size : Int)) = true := decide_eq_true c2
        clear c2
        by_cases c3 : 0 ≤ x3_1
        · rw [if_pos c3] at H
          have c3b0 : decide (0 ≤ x3_1) = true := decide_eq_true c3
          clear c3
          by_cases c5 : (bt a0 x3_1) = 45
          · rw [if_pos c5] at H
            have c5b0 : ((bt a0 x3_1) == 45) = true := beq_iff_eq.mpr c5
            have c5b1 : ((bt a0 x3_1) != 45) = false := bne_eq_false_iff_eq.mpr c5
            clear c5
            obtain rfl := Option.some.inj H
            have p4 : 0 ≤ (x3_1 : Int) := of_decide_eq_true (by first | (with_reducible assumption) | assumption)
            have q4 : x3_1 < (a0.size : Int) := of_decide_eq_true (by first | (with_reducible assumption) | assumption)
            have hx4 := bt_at a0 x3_1
            replace p4 := eq_true p4
            replace q4 := eq_true q4
            go_wp2
            go_ret
            exact ⟨by first | rfl | (simp; done) | (simp [*]; done), by repeat (first | exact Drawn0.refl _ | apply Drawn0.step)⟩
          · rw [if_neg c5] at H
            have c5b0 : ((bt a0 x3_1) == 45) = false := beq_eq_false_iff_ne.mpr c5
            have c5b1 : ((bt a0 x3_1) != 45) = true := bne_iff_ne.mpr c5
            have H' := Aside0.mk H
            clear H
            have p4 : 0 ≤ (x3_1 : Int) := of_decide_eq_true (by first | (with_reducible assumption) | assumption)
            have q4 : x3_1 < (a0.size : Int) := of_decide_eq_true (by first | (with_reducible assumption) | assumption)
            have hx4 := bt_at a0 x3_1
            replace p4 := eq_true p4
            replace q4 := eq_true q4
            go_wp2
            go_roundg k1
            case measure => have := HK1.out; omega
            case rel => exact ⟨(wrap64 (x3_1 + 1)), (by first | rfl | (simp; done) | (simp [*]; done)), H', ⟨by have := HK1.out; omega⟩, by repeat (first | exact Drawn0.refl _ | apply Drawn0.step)⟩
        · rw [if_neg c3] at H
          exact absurd H (by simp)
      · rw [if_neg c2] at H
        have c2b0 : decide (x3_1 < (a0.size : Int)) = false := decide_eq_false c2
        clear c2
        obtain rfl := Option.some.inj H
        go_wp2
        go_ret
        exact ⟨by first | rfl | (simp; done) | (simp [*]; done), by repeat (first | exact Drawn0.refl _ | apply Drawn0.step)⟩

end Go.Proofs.Ytbjddomocggjmaa.PFragcheckChecks
