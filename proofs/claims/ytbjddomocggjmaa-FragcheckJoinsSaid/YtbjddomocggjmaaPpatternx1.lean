-- PRINTED BY print.sh 35421559b90ae4d0a3588c463048766b98c2df88dd9212a6774a882060cdf62d: not written by this session
import Derived.Test.YtbjddomocggjmaaPpatternx0
namespace Go.Proofs.Ytbjddomocggjmaa.Ppattern
open Go.RowKit Go.Proofs.YtbjddomocggjmaaW.PrintWords Go.Proofs.YtbjddomocggjmaaW.PrintLast Go.Proofs.YtbjddomocggjmaaW.PrintMore
attribute [local go_sem] max2_int min2_int max_two min_two max_three min_three max_four min_four   -- for this text's walks alone
set_option linter.unusedVariables false
set_option linter.unusedSimpArgs false

/-! ### fragcheck_pattern: function 59 -/
mutual
def fragcheck_pattern.j0 : Nat → ByteArray → Bool → Option (ByteArray × Bool)
  | 0, _, _ => none
  | k + 1, x18, x19 => if x19 = true then (some ((⟨#[]⟩ : ByteArray), true)) else (if x18.toList = ([73, 110, 116] : List UInt8) then (fragcheck_pattern.j1 k x18 (x18.toList == ([73, 110, 116] : List UInt8))) else (if x18.toList = ([66, 105, 116, 115] : List UInt8) then (fragcheck_pattern.j1 k x18 (x18.toList == ([66, 105, 116, 115] : List UInt8))) else (if x18.toList = ([79, 99, 116, 101, 116, 115] : List UInt8) then (fragcheck_pattern.j1 k x18 (x18.toList == ([79, 99, 116, 101, 116, 115] : List UInt8))) else (fragcheck_pattern.j1 k x18 (x18.toList == ([76, 105, 115, 116] : List UInt8))))))
def fragcheck_pattern.j1 : Nat → ByteArray → Bool → Option (ByteArray × Bool)
  | 0, _, _ => none
  | k + 1, x18, x29 => if x29 = true then (some ((⟨#[110, 110, 42]⟩ : ByteArray), true)) else (if x18.toList = ([83, 116, 114] : List UInt8) then (some ((⟨#[115, 110, 110, 42]⟩ : ByteArray), true)) else (if x18.toList = ([69, 110, 117, 109] : List UInt8) then (some ((⟨#[110, 110, 115, 115, 42]⟩ : ByteArray), true)) else (if x18.toList = ([67, 104, 111, 105, 99, 101] : List UInt8) then (some ((⟨#[110, 115, 115, 42]⟩ : ByteArray), true)) else (if x18.toList = ([83, 101, 113] : List UInt8) then (some ((⟨#[110]⟩ : ByteArray), true)) else (if x18.toList = ([68, 101, 102] : List UInt8) then (some ((⟨#[115, 110, 110, 115]⟩ : ByteArray), true)) else (if x18.toList = ([65, 100, 100, 115] : List UInt8) then (some ((⟨#[115, 42]⟩ : ByteArray), true)) else (if x18.toList = ([66, 105, 116] : List UInt8) then (some ((⟨#[115]⟩ : ByteArray), true)) else (if x18.toList = ([73, 110] : List UInt8) then (some ((⟨#[115]⟩ : ByteArray), true)) else (if x18.toList = ([79, 112, 101, 110] : List UInt8) then (some ((⟨#[115]⟩ : ByteArray), true)) else (some ((⟨#[]⟩ : ByteArray), false)))))))))))
end
def fragcheck_pattern.f (k : Nat) (a0 : Int) (a1 : ByteArray) : Option (ByteArray × Bool) := if a0 = 4 then (some ((⟨#[]⟩ : ByteArray), (a1.toList == ([78, 101, 120, 116] : List UInt8)))) else (if a0 = 3 then (if a1.toList = ([72, 97, 115] : List UInt8) then (some ((⟨#[115]⟩ : ByteArray), true)) else (if a1.toList = ([73, 115] : List UInt8) then (some ((⟨#[115]⟩ : ByteArray), true)) else (some ((⟨#[]⟩ : ByteArray), (a1.toList == ([77, 111, 114, 101] : List UInt8)))))) else (if a1.toList = ([66, 111, 111, 108] : List UInt8) then (fragcheck_pattern.j0 k a1 (a1.toList == ([66, 111, 111, 108] : List UInt8))) else (if a1.toList = ([78, 117, 108, 108] : List UInt8) then (fragcheck_pattern.j0 k a1 (a1.toList == ([78, 117, 108, 108] : List UInt8))) else (if a1.toList = ([77, 97, 114, 107] : List UInt8) then (fragcheck_pattern.j0 k a1 (a1.toList == ([77, 97, 114, 107] : List UInt8))) else (if a1.toList = ([79, 117, 116] : List UInt8) then (fragcheck_pattern.j0 k a1 (a1.toList == ([79, 117, 116] : List UInt8))) else (if a1.toList = ([77, 97, 114, 107, 115] : List UInt8) then (fragcheck_pattern.j0 k a1 (a1.toList == ([77, 97, 114, 107, 115] : List UInt8))) else (if a1.toList = ([83, 104, 117, 116] : List UInt8) then (fragcheck_pattern.j0 k a1 (a1.toList == ([83, 104, 117, 116] : List UInt8))) else (if a1.toList = ([82, 101, 115, 116] : List UInt8) then (fragcheck_pattern.j0 k a1 (a1.toList == ([82, 101, 115, 116] : List UInt8))) else (if a1.toList = ([67, 108, 111, 115, 101] : List UInt8) then (fragcheck_pattern.j0 k a1 (a1.toList == ([67, 108, 111, 115, 101] : List UInt8))) else (fragcheck_pattern.j0 k a1 (a1.toList == ([80, 105, 99, 107] : List UInt8))))))))))))
theorem fragcheck_pattern.mono_l : ∀ k, (∀ y0 y1, LeO (fragcheck_pattern.j0 k y0 y1) (fragcheck_pattern.j0 (k + 1) y0 y1)) ∧ (∀ y0 y1, LeO (fragcheck_pattern.j1 k y0 y1) (fragcheck_pattern.j1 (k + 1) y0 y1))
  | 0 => ⟨fun _ _ r h => by simp [fragcheck_pattern.j0] at h, fun _ _ r h => by simp [fragcheck_pattern.j1] at h⟩
  | k + 1 => by
    obtain ⟨ih0, ih1⟩ := fragcheck_pattern.mono_l k
    refine ⟨?_, ?_⟩
    · intro y0 y1
      unfold fragcheck_pattern.j0
      repeat' first
      | (with_reducible exact ih0 _ _)
      | (with_reducible exact ih1 _ _)
      | (with_reducible exact LeO.refl _)
      | (with_reducible exact LeO.none _)
      | (with_reducible refine LeO.ite ?_ ?_)
      | (with_reducible refine LeO.bind ?_ (fun _ => ?_))
      | exact ih0 _ _
      | exact ih1 _ _
      | exact LeO.none _
      | refine LeO.ite ?_ ?_
      | refine LeO.bind ?_ (fun _ => ?_)
    · intro y0 y1
      unfold fragcheck_pattern.j1
      repeat' first
      | (with_reducible exact ih0 _ _)
      | (with_reducible exact ih1 _ _)
      | (with_reducible exact LeO.refl _)
      | (with_reducible exact LeO.none _)
      | (with_reducible refine LeO.ite ?_ ?_)
      | (with_reducible refine LeO.bind ?_ (fun _ => ?_))
      | exact ih0 _ _
      | exact ih1 _ _
      | exact LeO.none _
      | refine LeO.ite ?_ ?_
      | refine LeO.bind ?_ (fun _ => ?_)
theorem fragcheck_pattern.mono : ∀ a0 a1 k, LeO (fragcheck_pattern.f k a0 a1) (fragcheck_pattern.f (k + 1) a0 a1) := by
  intro a0 a1 k
  obtain ⟨ih0, ih1⟩ := fragcheck_pattern.mono_l k
  unfold fragcheck_pattern.f
  repeat' first
      | (with_reducible exact ih0 _ _)
      | (with_reducible exact ih1 _ _)
      | (with_reducible exact LeO.refl _)
      | (with_reducible exact LeO.none _)
      | (with_reducible refine LeO.ite ?_ ?_)
      | (with_reducible refine LeO.bind ?_ (fun _ => ?_))
      | exact ih0 _ _
      | exact ih1 _ _
      | exact LeO.none _
      | refine LeO.ite ?_ ?_
      | refine LeO.bind ?_ (fun _ => ?_)
set_option maxHeartbeats 8000000 in
set_option maxRecDepth 100000 in
theorem fragcheck_pattern.calls (k : Nat) (a0 : Int) (a1 : ByteArray) (r1 : ByteArray) (r2 : Bool) (w : World) (h : fragcheck_pattern.f k a0 a1 = some (r1, r2)) :
    Calls Try.prog 59 #[.int .i64 a0, .string a1] w fun e w' => e = .returned (.tuple #[.string r1, .bool r2]) ∧ Drawn0 w w' := by
  have H : (if a0 = 4 then (some ((⟨#[]⟩ : ByteArray), (a1.toList == ([78, 101, 120, 116] : List UInt8)))) else (if a0 = 3 then (if a1.toList = ([72, 97, 115] : List UInt8) then (some ((⟨#[115]⟩ : ByteArray), true)) else (if a1.toList = ([73, 115] : List UInt8) then (some ((⟨#[115]⟩ : ByteArray), true)) else (some ((⟨#[]⟩ : ByteArray), (a1.toList == ([77, 111, 114, 101] : List UInt8)))))) else (if a1.toList = ([66, 111, 111, 108] : List UInt8) then (fragcheck_pattern.j0 k a1 (a1.toList == ([66, 111, 111, 108] : List UInt8))) else (if a1.toList = ([78, 117, 108, 108] : List UInt8) then (fragcheck_pattern.j0 k a1 (a1.toList == ([78, 117, 108, 108] : List UInt8))) else (if a1.toList = ([77, 97, 114, 107] : List UInt8) then (fragcheck_pattern.j0 k a1 (a1.toList == ([77, 97, 114, 107] : List UInt8))) else (if a1.toList = ([79, 117, 116] : List UInt8) then (fragcheck_pattern.j0 k a1 (a1.toList == ([79, 117, 116] : List UInt8))) else (if a1.toList = ([77, 97, 114, 107, 115] : List UInt8) then (fragcheck_pattern.j0 k a1 (a1.toList == ([77, 97, 114, 107, 115] : List UInt8))) else (if a1.toList = ([83, 104, 117, 116] : List UInt8) then (fragcheck_pattern.j0 k a1 (a1.toList == ([83, 104, 117, 116] : List UInt8))) else (if a1.toList = ([82, 101, 115, 116] : List UInt8) then (fragcheck_pattern.j0 k a1 (a1.toList == ([82, 101, 115, 116] : List UInt8))) else (if a1.toList = ([67, 108, 111, 115, 101] : List UInt8) then (fragcheck_pattern.j0 k a1 (a1.toList == ([67, 108, 111, 115, 101] : List UInt8))) else (fragcheck_pattern.j0 k a1 (a1.toList == ([80, 105, 99, 107] : List UInt8))))))))))))) = some (r1, r2) := h
  clear h
  by_cases c3 : a0 = 4
  · rw [if_pos c3] at H
    have c3b0 : (a0 == 4) = true := beq_iff_eq.mpr c3
    have c3b1 : (a0 != 4) = false := bne_eq_false_iff_eq.mpr c3
    clear c3
    simp only [Option.some.injEq, Prod.mk.injEq] at H
    obtain ⟨rfl, rfl⟩ := H
    go_enter Try.func59, Try.ntmps59
    go_wp2
    go_ret2
    exact ⟨by first | rfl | (simp; done) | (simp [*]; done), by repeat (first | exact Drawn0.refl _ | apply Drawn0.step)⟩
  · rw [if_neg c3] at H
    have c3b0 : (a0 == 4) = false := beq_eq_false_iff_ne.mpr c3
    have c3b1 : (a0 != 4) = true := bne_iff_ne.mpr c3
    by_cases c4 : a0 = 3
    · rw [if_pos c4] at H
      have c4b0 : (a0 == 3) = true := beq_iff_eq.mpr c4
      have c4b1 : (a0 != 3) = false := bne_eq_false_iff_eq.mpr c4
      clear c4
      by_cases c5 : a1.toList = ([72, 97, 115] : List UInt8)
      · rw [if_pos c5] at H
        have c5b0 : (a1.toList == ([72, 97, 115] : List UInt8)) = true := beq_iff_eq.mpr c5
        have c5b1 : (a1.toList != ([72, 97, 115] : List UInt8)) = false := bne_eq_false_iff_eq.mpr c5
        clear c5
        simp only [Option.some.injEq, Prod.mk.injEq] at H
        obtain ⟨rfl, rfl⟩ := H
        go_enter Try.func59, Try.ntmps59
        go_wp2
        go_ret2
        exact ⟨by first | rfl | (simp; done) | (simp [*]; done), by repeat (first | exact Drawn0.refl _ | apply Drawn0.step)⟩
      · rw [if_neg c5] at H
        have c5b0 : (a1.toList == ([72, 97, 115] : List UInt8)) = false := beq_eq_false_iff_ne.mpr c5
        have c5b1 : (a1.toList != ([72, 97, 115] : List UInt8)) = true := bne_iff_ne.mpr c5
        by_cases c6 : a1.toList = ([73, 115] : List UInt8)
        · rw [if_pos c6] at H
          have c6b0 : (a1.toList == ([73, 115] : List UInt8)) = true := beq_iff_eq.mpr c6
          have c6b1 : (a1.toList != ([73, 115] : List UInt8)) = false := bne_eq_false_iff_eq.mpr c6
          clear c6
          simp only [Option.some.injEq, Prod.mk.injEq] at H
          obtain ⟨rfl, rfl⟩ := H
          go_enter Try.func59, Try.ntmps59
          go_wp2
          go_ret2
          exact ⟨by first | rfl | (simp; done) | (simp [*]; done), by repeat (first | exact Drawn0.refl _ | apply Drawn0.step)⟩
        · rw [if_neg c6] at H
          have c6b0 : (a1.toList == ([73, 115] : List UInt8)) = false := beq_eq_false_iff_ne.mpr c6
          have c6b1 : (a1.toList != ([73, 115] : List UInt8)) = true := bne_iff_ne.mpr c6
          simp only [Option.some.injEq, Prod.mk.injEq] at H
          obtain ⟨rfl, rfl⟩ := H
          go_enter Try.func59, Try.ntmps59
          go_wp2
          go_ret2
          exact ⟨by first | rfl | (simp; done) | (simp [*]; done), by repeat (first | exact Drawn0.refl _ | apply Drawn0.step)⟩
    · rw [if_neg c4] at H
      have c4b0 : (a0 == 3) = false := beq_eq_false_iff_ne.mpr c4
      have c4b1 : (a0 != 3) = true := bne_iff_ne.mpr c4
      have HC7 := Aside0.mk H
      clear H
      go_enter Try.func59, Try.ntmps59
      go_upto_if 19 with (fail)
      go_cut [19] (fun v19 wc => ∃ (kq : Nat) (x19_6 : Bool), v19 = .bool x19_6 ∧ Aside0 (fragcheck_pattern.j0 kq a1 x19_6 = some (r1, r2)) ∧ Aside0 (kq ≤ k) ∧ Drawn0 w wc)
      case first =>
        have H := HC7.out
        clear HC7
        by_cases c8 : a1.toList = ([66, 111, 111, 108] : List UInt8)
        · rw [if_pos c8] at H
          have c8b0 : (a1.toList == ([66, 111, 111, 108] : List UInt8)) = true := beq_iff_eq.mpr c8
          have c8b1 : (a1.toList != ([66, 111, 111, 108] : List UInt8)) = false := bne_eq_false_iff_eq.mpr c8
          clear c8
          (first | rw [c8b0] | (simp only [i64_w, i32_w]; rw [c8b0]) | skip)
          have H' := Aside0.mk H
          clear H
          go_wp2
          go_meet
          case rel => exact ⟨_, ((a1.toList == ([66, 111, 111, 108] : List UInt8))), (by first | rfl | (simp; done) | (simp [*]; done)), H', ⟨by first | omega | exact Nat.le_refl _⟩, by repeat (first | exact Drawn0.refl _ | apply Drawn0.step)⟩
        · rw [if_neg c8] at H
          have c8b0 : (a1.toList == ([66, 111, 111, 108] : List UInt8)) = false := beq_eq_false_iff_ne.mpr c8
          have c8b1 : (a1.toList != ([66, 111, 111, 108] : List UInt8)) = true := bne_iff_ne.mpr c8
          (first | rw [c8b0] | (simp only [i64_w, i32_w]; rw [c8b0]) | skip)
          by_cases c9 : a1.toList = ([78, 117, 108, 108] : List UInt8)
          · rw [if_pos c9] at H
            have c9b0 : (a1.toList == ([78, 117, 108, 108] : List UInt8)) = true := beq_iff_eq.mpr c9
            have c9b1 : (a1.toList != ([78, 117, 108, 108] : List UInt8)) = false := bne_eq_false_iff_eq.mpr c9
            clear c9
            have H' := Aside0.mk H
            clear H
            go_wp2
            go_meet
            case rel => exact ⟨_, ((a1.toList == ([78, 117, 108, 108] : List UInt8))), (by first | rfl | (simp; done) | (simp [*]; done)), H', ⟨by first | omega | exact Nat.le_refl _⟩, by repeat (first | exact Drawn0.refl _ | apply Drawn0.step)⟩
          · rw [if_neg c9] at H
            have c9b0 : (a1.toList == ([78, 117, 108, 108] : List UInt8)) = false := beq_eq_false_iff_ne.mpr c9
            have c9b1 : (a1.toList != ([78, 117, 108, 108] : List UInt8)) = true := bne_iff_ne.mpr c9
            by_cases c10 : a1.toList = ([77, 97, 114, 107] : List UInt8)
            · rw [if_pos c10] at H
              have c10b0 : (a1.toList == ([77, 97, 114, 107] : List UInt8)) = true := beq_iff_eq.mpr c10
              have c10b1 : (a1.toList != ([77, 97, 114, 107] : List UInt8)) = false := bne_eq_false_iff_eq.mpr c10
              clear c10
              have H' := Aside0.mk H
              clear H
              go_wp2
              go_meet
              case rel => exact ⟨_, ((a1.toList == ([77, 97, 114, 107] : List UInt8))), (by first | rfl | (simp; done) | (simp [*]; done)), H', ⟨by first | omega | exact Nat.le_refl _⟩, by repeat (first | exact Drawn0.refl _ | apply Drawn0.step)⟩
            · rw [if_neg c10] at H
              have c10b0 : (a1.toList == ([77, 97, 114, 107] : List UInt8)) = false := beq_eq_false_iff_ne.mpr c10
              have c10b1 : (a1.toList != ([77, 97, 114, 107] : List UInt8)) = true := bne_iff_ne.mpr c10
              by_cases c11 : a1.toList = ([79, 117, 116] : List UInt8)
              · rw [if_pos c11] at H
                have c11b0 : (a1.toList == ([79, 117, 116] : List UInt8)) = true := beq_iff_eq.mpr c11
                have c11b1 : (a1.toList != ([79, 117, 116] : List UInt8)) = false := bne_eq_false_iff_eq.mpr c11
                clear c11
                have H' := Aside0.mk H
                clear H
                go_wp2
                go_meet
                case rel => exact ⟨_, ((a1.toList == ([79, 117, 116] : List UInt8))), (by first | rfl | (simp; done) | (simp [*]; done)), H', ⟨by first | omega | exact Nat.le_refl _⟩, by repeat (first | exact Drawn0.refl _ | apply Drawn0.step)⟩
              · rw [if_neg c11] at H
                have c11b0 : (a1.toList == ([79, 117, 116] : List UInt8)) = false := beq_eq_false_iff_ne.mpr c11
                have c11b1 : (a1.toList != ([79, 117, 116] : List UInt8)) = true := bne_iff_ne.mpr c11
                by_cases c12 : a1.toList = ([77, 97, 114, 107, 115] : List UInt8)
                · rw [if_pos c12] at H
                  have c12b0 : (a1.toList == ([77, 97, 114, 107, 115] : List UInt8)) = true := beq_iff_eq.mpr c12
                  have c12b1 : (a1.toList != ([77, 97, 114, 107, 115] : List UInt8)) = false := bne_eq_false_iff_eq.mpr c12
                  clear c12
                  have H' := Aside0.mk H
                  clear H
                  go_wp2
                  go_meet
                  case rel => exact ⟨_, ((a1.toList == ([77, 97, 114, 107, 115] : List UInt8))), (by first | rfl | (simp; done) | (simp [*]; done)), H', ⟨by first | omega | exact Nat.le_refl _⟩, by repeat (first | exact Drawn0.refl _ | apply Drawn0.step)⟩
                · rw [if_neg c12] at H
                  have c12b0 : (a1.toList == ([77, 97, 114, 107, 115] : List UInt8)) = false := beq_eq_false_iff_ne.mpr c12
                  have c12b1 : (a1.toList != ([77, 97, 114, 107, 115] : List UInt8)) = true := bne_iff_ne.mpr c12
                  by_cases c13 : a1.toList = ([83, 104, 117, 116] : List UInt8)
                  · rw [if_pos c13] at H
                    have c13b0 : (a1.toList == ([83, 104, 117, 116] : List UInt8)) = true := beq_iff_eq.mpr c13
                    have c13b1 : (a1.toList != ([83, 104, 117, 116] : List UInt8)) = false := bne_eq_false_iff_eq.mpr c13
                    clear c13
                    have H' := Aside0.mk H
                    clear H
                    go_wp2
                    go_meet
                    case rel => exact ⟨_, ((a1.toList == ([83, 104, 117, 116] : List UInt8))), (by first | rfl | (simp; done) | (simp [*]; done)), H', ⟨by first | omega | exact Nat.le_refl _⟩, by repeat (first | exact Drawn0.refl _ | apply Drawn0.step)⟩
                  · rw [if_neg c13] at H
                    have c13b0 : (a1.toList == ([83, 104, 117, 116] : List UInt8)) = false := beq_eq_false_iff_ne.mpr c13
                    have c13b1 : (a1.toList != ([83, 104, 117, 116] : List UInt8)) = true := bne_iff_ne.mpr c13
                    by_cases c14 : a1.toList = ([82, 101, 115, 116] : List UInt8)
                    · rw [if_pos c14] at H
                      have c14b0 : (a1.toList == ([82, 101, 115, 116] : List UInt8)) = true := beq_iff_eq.mpr c14
                      have c14b1 : (a1.toList != ([82, 101, 115, 116] : List UInt8)) = false := bne_eq_false_iff_eq.mpr c14
                      clear c14
                      have H' := Aside0.mk H
                      clear H
                      go_wp2
                      go_meet
                      case rel => exact ⟨_, ((a1.toList == ([82, 101, 115, 116] : List UInt8))), (by first | rfl | (simp; done) | (simp [*]; done)), H', ⟨by first | omega | exact Nat.le_refl _⟩, by repeat (first | exact Drawn0.refl _ | apply Drawn0.step)⟩
                    · rw [if_neg c14] at H
                      have c14b0 : (a1.toList == ([82, 101, 115, 116] : List UInt8)) = false := beq_eq_false_iff_ne.mpr c14
                      have c14b1 : (a1.toList != ([82, 101, 115, 116] : List UInt8)) = true := bne_iff_ne.mpr c14
                      by_cases c15 : a1.toList = ([67, 108, 111, 115, 101] : List UInt8)
                      · rw [if_pos c15] at H
                        have c15b0 : (a1.toList == ([67, 108, 111, 115, 101] : List UInt8)) = true := beq_iff_eq.mpr c15
                        have c15b1 : (a1.toList != ([67, 108, 111, 115, 101] : List UInt8)) = false := bne_eq_false_iff_eq.mpr c15
                        clear c15
                        have H' := Aside0.mk H
                        clear H
                        go_wp2
                        go_meet
                        case rel => exact ⟨_, ((a1.toList == ([67, 108, 111, 115, 101] : List UInt8))), (by first | rfl | (simp; done) | (simp [*]; done)), H', ⟨by first | omega | exact Nat.le_refl _⟩, by repeat (first | exact Drawn0.refl _ | apply Drawn0.step)⟩
                      · rw [if_neg c15] at H
                        have c15b0 : (a1.toList == ([67, 108, 111, 115, 101] : List UInt8)) = false := beq_eq_false_iff_ne.mpr c15
                        have c15b1 : (a1.toList != ([67, 108, 111, 115, 101] : List UInt8)) = true := bne_iff_ne.mpr c15
                        have H' := Aside0.mk H
                        clear H
                        go_wp2
                        go_meet
                        case rel => exact ⟨_, ((a1.toList == ([80, 105, 99, 107] : List UInt8))), (by first | rfl | (simp; done) | (simp [*]; done)), H', ⟨by first | omega | exact Nat.le_refl _⟩, by repeat (first | exact Drawn0.refl _ | apply Drawn0.step)⟩
      case rest =>
        clear HC7
        try clear c1
        try clear p2
        try clear c3
        try clear c3b0
        try clear c3b1
        try clear c4
        try clear c4b0
        try clear c4b1
        try clear c5
        try clear c5b0
        try clear c5b1
        try clear c6
        try clear c6b0
        try clear c6b1
        try clear c8
        try clear c8b0
        try clear c8b1
        try clear c9
        try clear c9b0
        try clear c9b1
        try clear c10
        try clear c10b0
        try clear c10b1
        try clear c11
        try clear c11b0
        try clear c11b1
        try clear c12
        try clear c12b0
        try clear c12b1
        try clear c13
        try clear c13b0
        try clear c13b1
        try clear c14
        try clear c14b0
        try clear c14b1
        try clear c15
        try clear c15b0
        try clear c15b1
        obtain ⟨kq, x19_6, rfl, HA, HJ6, ⟨mc6, rfl⟩⟩ := hcut
        cases kq with
        | zero => exact absurd HA.out (by simp [fragcheck_pattern.j0])
        | succ kj6 =>
          have H := HA.out
          clear HA
          simp only [fragcheck_pattern.j0] at H
          by_cases c16 : x19_6 = true
          · subst c16
            have H1 : (some ((⟨#[]⟩ : ByteArray), true)) = some (r1, r2) := by rw [if_pos rfl] at H; exact H
            clear H
            have H := H1
            clear H1
            simp only [Option.some.injEq, Prod.mk.injEq] at H
            obtain ⟨rfl, rfl⟩ := H
            go_wp2
            go_ret2
            exact ⟨by first | rfl | (simp; done) | (simp [*]; done), by repeat (first | exact Drawn0.refl _ | apply Drawn0.step)⟩
          · replace c16 := Bool.eq_false_iff.mpr c16
            subst c16
            have H1 : (if a1.toList = ([73, 110, 116] : List UInt8) then (fragcheck_pattern.j1 kj6 a1 (a1.toList == ([73, 110, 116] : List UInt8))) else (if a1.toList = ([66, 105, 116, 115] : List UInt8) then (fragcheck_pattern.j1 kj6 a1 (a1.toList == ([66, 105, 116, 115] : List UInt8))) else (if a1.toList = ([79, 99, 116, 101, 116, 115] : List UInt8) then (fragcheck_pattern.j1 kj6 a1 (a1.toList == ([79, 99, 116, 101, 116, 115] : List UInt8))) else (fragcheck_pattern.j1 kj6 a1 (a1.toList == ([76, 105, 115, 116] : List UInt8)))))) = some (r1, r2) := by rw [if_neg (show ¬ (false = true) by decide)] at H; exact H
            clear H
            have H := H1
            clear H1
            have HC17 := Aside0.mk H
            clear H
            go_upto_if 29 with (fail)
            go_cut [29] (fun v29 wc => ∃ (kq : Nat) (x29_16 : Bool), v29 = .bool x29_16 ∧ Aside0 (fragcheck_pattern.j1 kq a1 x29_16 = some (r1, r2)) ∧ Aside0 (kq ≤ kj6) ∧ Drawn0 w wc)
            case first =>
              have H := HC17.out
              clear HC17
              by_cases c18 : a1.toList = ([73, 110, 116] : List UInt8)
              · rw [if_pos c18] at H
                have c18b0 : (a1.toList == ([73, 110, 116] : List UInt8)) = true := beq_iff_eq.mpr c18
                have c18b1 : (a1.toList != ([73, 110, 116] : List UInt8)) = false := bne_eq_false_iff_eq.mpr c18
                clear c18
                (first | rw [c18b0] | (simp only [i64_w, i32_w]; rw [c18b0]) | skip)
                have H' := Aside0.mk H
                clear H
                go_wp2
                go_meet
                case rel => exact ⟨_, ((a1.toList == ([73, 110, 116] : List UInt8))), (by first | rfl | (simp; done) | (simp [*]; done)), H', ⟨by have := HJ6.out; first | omega | exact Nat.le_refl _⟩, by repeat (first | exact Drawn0.refl _ | apply Drawn0.step)⟩
              · rw [if_neg c18] at H
                have c18b0 : (a1.toList == ([73, 110, 116] : List UInt8)) = false := beq_eq_false_iff_ne.mpr c18
                have c18b1 : (a1.toList != ([73, 110, 116] : List UInt8)) = true := bne_iff_ne.mpr c18
                (first | rw [c18b0] | (simp only [i64_w, i32_w]; rw [c18b0]) | skip)
                by_cases c19 : a1.toList = ([66, 105, 116, 115] : List UInt8)
                · rw [if_pos c19] at H
                  have c19b0 : (a1.toList == ([66, 105, 116, 115] : List UInt8)) = true := beq_iff_eq.mpr c19
                  have c19b1 : (a1.toList != ([66, 105, 116, 115] : List UInt8)) = false := bne_eq_false_iff_eq.mpr c19
                  clear c19
                  have H' := Aside0.mk H
                  clear H
                  go_wp2
                  go_meet
                  case rel => exact ⟨_, ((a1.toList == ([66, 105, 116, 115] : List UInt8))), (by first | rfl | (simp; done) | (simp [*]; done)), H', ⟨by have := HJ6.out; first | omega | exact Nat.le_refl _⟩, by repeat (first | exact Drawn0.refl _ | apply Drawn0.step)⟩
                · rw [if_neg c19] at H
                  have c19b0 : (a1.toList == ([66, 105, 116, 115] : List UInt8)) = false := beq_eq_false_iff_ne.mpr c19
                  have c19b1 : (a1.toList != ([66, 105, 116, 115] : List UInt8)) = true := bne_iff_ne.mpr c19
                  by_cases c20 : a1.toList = ([79, 99, 116, 101, 116, 115] : List UInt8)
                  · rw [if_pos c20] at H
                    have c20b0 : (a1.toList == ([79, 99, 116, 101, 116, 115] : List UInt8)) = true := beq_iff_eq.mpr c20
                    have c20b1 : (a1.toList != ([79, 99, 116, 101, 116, 115] : List UInt8)) = false := bne_eq_false_iff_eq.mpr c20
                    clear c20
                    have H' := Aside0.mk H
                    clear H
                    go_wp2
                    go_meet
                    case rel => exact ⟨_, ((a1.toList == ([79, 99, 116, 101, 116, 115] : List UInt8))), (by first | rfl | (simp; done) | (simp [*]; done)), H', ⟨by have := HJ6.out; first | omega | exact Nat.le_refl _⟩, by repeat (first | exact Drawn0.refl _ | apply Drawn0.step)⟩
                  · rw [if_neg c20] at H
                    have c20b0 : (a1.toList == ([79, 99, 116, 101, 116, 115] : List UInt8)) = false := beq_eq_false_iff_ne.mpr c20
                    have c20b1 : (a1.toList != ([79, 99, 116, 101, 116, 115] : List UInt8)) = true := bne_iff_ne.mpr c20
                    have H' := Aside0.mk H
                    clear H
                    go_wp2
                    go_meet
                    case rel => exact ⟨_, ((a1.toList == ([76, 105, 115, 116] : List UInt8))), (by first | rfl | (simp; done) | (simp [*]; done)), H', ⟨by have := HJ6.out; first | omega | exact Nat.le_refl _⟩, by repeat (first | exact Drawn0.refl _ | apply Drawn0.step)⟩
            case rest =>
              clear HC17
              try clear c1
              try clear c2
              try clear p2
              try clear c3
              try clear c3b0
              try clear c3b1
              try clear c4
              try clear c4b0
              try clear c4b1
              try clear c5
              try clear c5b0
              try clear c5b1
              try clear c6
              try clear c6b0
              try clear c6b1
              try clear c8
              try clear c8b0
              try clear c8b1
              try clear c9
              try clear c9b0
              try clear c9b1
              try clear c10
              try clear c10b0
              try clear c10b1
              try clear c11
              try clear c11b0
              try clear c11b1
              try clear c12
              try clear c12b0
              try clear c12b1
              try clear c13
              try clear c13b0
              try clear c13b1
              try clear c14
              try clear c14b0
              try clear c14b1
              try clear c15
              try clear c15b0
              try clear c15b1
              try clear c16
              try clear c18
              try clear c18b0
              try clear c18b1
              try clear c19
              try clear c19b0
              try clear c19b1
              try clear c20
              try clear c20b0
              try clear c20b1
              try clear p2
              obtain ⟨kq, x29_16, rfl, HA, HJ16, ⟨mc16, rfl⟩⟩ := hcut
              cases kq with
              | zero => exact absurd HA.out (by simp [fragcheck_pattern.j1])
              | succ kj16 =>
                have H := HA.out
                clear HA
                simp only [fragcheck_pattern.j1] at H
                by_cases c21 : x29_16 = true
                · subst c21
                  have H1 : (some ((⟨#[110, 110, 42]⟩ : ByteArray), true)) = some (r1, r2) := by rw [if_pos rfl] at H; exact H
                  clear H
                  have H := H1
                  clear H1
                  simp only [Option.some.injEq, Prod.mk.injEq] at H
                  obtain ⟨rfl, rfl⟩ := H
                  go_wp2
                  go_ret2
                  exact ⟨by first | rfl | (simp; done) | (simp [*]; done), by repeat (first | exact Drawn0.refl _ | apply Drawn0.step)⟩
                · replace c21 := Bool.eq_false_iff.mpr c21
                  subst c21
                  have H1 : (if a1.toList = ([83, 116, 114] : List UInt8) then (some ((⟨#[115, 110, 110, 42]⟩ : ByteArray), true)) else (if a1.toList = ([69, 110, 117, 109] : List UInt8) then (some ((⟨#[110, 110, 115, 115, 42]⟩ : ByteArray), true)) else (if a1.toList = ([67, 104, 111, 105, 99, 101] : List UInt8) then (some ((⟨#[110, 115, 115, 42]⟩ : ByteArray), true)) else (if a1.toList = ([83, 101, 113] : List UInt8) then (some ((⟨#[110]⟩ : ByteArray), true)) else (if a1.toList = ([68, 101, 102] : List UInt8) then (some ((⟨#[115, 110, 110, 115]⟩ : ByteArray), true)) else (if a1.toList = ([65, 100, 100, 115] : List UInt8) then (some ((⟨#[115, 42]⟩ : ByteArray), true)) else (if a1.toList = ([66, 105, 116] : List UInt8) then (some ((⟨#[115]⟩ : ByteArray), true)) else (if a1.toList = ([73, 110] : List UInt8) then (some ((⟨#[115]⟩ : ByteArray), true)) else (if a1.toList = ([79, 112, 101, 110] : List UInt8) then (some ((⟨#[115]⟩ : ByteArray), true)) else (some ((⟨#[]⟩ : ByteArray), false))))))))))) = some (r1, r2) := by rw [if_neg (show ¬ (false = true) by decide)] at H; exact H
                  clear H
                  have H := H1
                  clear H1
                  by_cases c22 : a1.toList = ([83, 116, 114] : List UInt8)
                  · rw [if_pos c22] at H
                    have c22b0 : (a1.toList == ([83, 116, 114] : List UInt8)) = true := beq_iff_eq.mpr c22
                    have c22b1 : (a1.toList != ([83, 116, 114] : List UInt8)) = false := bne_eq_false_iff_eq.mpr c22
                    clear c22
                    simp only [Option.some.injEq, Prod.mk.injEq] at H
                    obtain ⟨rfl, rfl⟩ := H
                    go_wp2
                    go_ret2
                    exact ⟨by first | rfl | (simp; done) | (simp [*]; done), by repeat (first | exact Drawn0.refl _ | apply Drawn0.step)⟩
                  · rw [if_neg c22] at H
                    have c22b0 : (a1.toList == ([83, 116, 114] : List UInt8)) = false := beq_eq_false_iff_ne.mpr c22
                    have c22b1 : (a1.toList != ([83, 116, 114] : List UInt8)) = true := bne_iff_ne.mpr c22
                    by_cases c23 : a1.toList = ([69, 110, 117, 109] : List UInt8)
                    · rw [if_pos c23] at H
                      have c23b0 : (a1.toList == ([69, 110, 117, 109] : List UInt8)) = true := beq_iff_eq.mpr c23
                      have c23b1 : (a1.toList != ([69, 110, 117, 109] : List UInt8)) = false := bne_eq_false_iff_eq.mpr c23
                      clear c23
                      simp only [Option.some.injEq, Prod.mk.injEq] at H
                      obtain ⟨rfl, rfl⟩ := H
                      go_wp2
                      go_ret2
                      exact ⟨by first | rfl | (simp; done) | (simp [*]; done), by repeat (first | exact Drawn0.refl _ | apply Drawn0.step)⟩
                    · rw [if_neg c23] at H
                      have c23b0 : (a1.toList == ([69, 110, 117, 109] : List UInt8)) = false := beq_eq_false_iff_ne.mpr c23
                      have c23b1 : (a1.toList != ([69, 110, 117, 109] : List UInt8)) = true := bne_iff_ne.mpr c23
                      by_cases c24 : a1.toList = ([67, 104, 111, 105, 99, 101] : List UInt8)
                      · rw [if_pos c24] at H
                        have c24b0 : (a1.toList == ([67, 104, 111, 105, 99, 101] : List UInt8)) = true := beq_iff_eq.mpr c24
                        have c24b1 : (a1.toList != ([67, 104, 111, 105, 99, 101] : List UInt8)) = false := bne_eq_false_iff_eq.mpr c24
                        clear c24
                        simp only [Option.some.injEq, Prod.mk.injEq] at H
                        obtain ⟨rfl, rfl⟩ := H
                        go_wp2
                        go_ret2
                        exact ⟨by first | rfl | (simp; done) | (simp [*]; done), by repeat (first | exact Drawn0.refl _ | apply Drawn0.step)⟩
                      · rw [if_neg c24] at H
                        have c24b0 : (a1.toList == ([67, 104, 111, 105, 99, 101] : List UInt8)) = false := beq_eq_false_iff_ne.mpr c24
                        have c24b1 : (a1.toList != ([67, 104, 111, 105, 99, 101] : List UInt8)) = true := bne_iff_ne.mpr c24
                        by_cases c25 : a1.toList = ([83, 101, 113] : List UInt8)
                        · rw [if_pos c25] at H
                          have c25b0 : (a1.toList == ([83, 101, 113] : List UInt8)) = true := beq_iff_eq.mpr c25
                          have c25b1 : (a1.toList != ([83, 101, 113] : List UInt8)) = false := bne_eq_false_iff_eq.mpr c25
                          clear c25
                          simp only [Option.some.injEq, Prod.mk.injEq] at H
                          obtain ⟨rfl, rfl⟩ := H
                          go_wp2
                          go_ret2
                          exact ⟨by first | rfl | (simp; done) | (simp [*]; done), by repeat (first | exact Drawn0.refl _ | apply Drawn0.step)⟩
                        · rw [if_neg c25] at H
                          have c25b0 : (a1.toList == ([83, 101, 113] : List UInt8)) = false := beq_eq_false_iff_ne.mpr c25
                          have c25b1 : (a1.toList != ([83, 101, 113] : List UInt8)) = true := bne_iff_ne.mpr c25
                          by_cases c26 : a1.toList = ([68, 101, 102] : List UInt8)
                          · rw [if_pos c26] at H
                            have c26b0 : (a1.toList == ([68, 101, 102] : List UInt8)) = true := beq_iff_eq.mpr c26
                            have c26b1 : (a1.toList != ([68, 101, 102] : List UInt8)) = false := bne_eq_false_iff_eq.mpr c26
                            clear c26
                            simp only [Option.some.injEq, Prod.mk.injEq] at H
                            obtain ⟨rfl, rfl⟩ := H
                            go_wp2
                            go_ret2
                            exact ⟨by first | rfl | (simp; done) | (simp [*]; done), by repeat (first | exact Drawn0.refl _ | apply Drawn0.step)⟩
                          · rw [if_neg c26] at H
                            have c26b0 : (a1.toList == ([68, 101, 102] : List UInt8)) = false := beq_eq_false_iff_ne.mpr c26
                            have c26b1 : (a1.toList != ([68, 101, 102] : List UInt8)) = true := bne_iff_ne.mpr c26
                            by_cases c27 : a1.toList = ([65, 100, 100, 115] : List UInt8)
                            · rw [if_pos c27] at H
                              have c27b0 : (a1.toList == ([65, 100, 100, 115] : List UInt8)) = true := beq_iff_eq.mpr c27
                              have c27b1 : (a1.toList != ([65, 100, 100, 115] : List UInt8)) = false := bne_eq_false_iff_eq.mpr c27
                              clear c27
                              simp only [Option.some.injEq, Prod.mk.injEq] at H
                              obtain ⟨rfl, rfl⟩ := H
                              go_wp2
                              go_ret2
                              exact ⟨by first | rfl | (simp; done) | (simp [*]; done), by repeat (first | exact Drawn0.refl _ | apply Drawn0.step)⟩
                            · rw [if_neg c27] at H
                              have c27b0 : (a1.toList == ([65, 100, 100, 115] : List UInt8)) = false := beq_eq_false_iff_ne.mpr c27
                              have c27b1 : (a1.toList != ([65, 100, 100, 115] : List UInt8)) = true := bne_iff_ne.mpr c27
                              by_cases c28 : a1.toList = ([66, 105, 116] : List UInt8)
                              · rw [if_pos c28] at H
                                have c28b0 : (a1.toList == ([66, 105, 116] : List UInt8)) = true := beq_iff_eq.mpr c28
                                have c28b1 : (a1.toList != ([66, 105, 116] : List UInt8)) = false := bne_eq_false_iff_eq.mpr c28
                                clear c28
                                simp only [Option.some.injEq, Prod.mk.injEq] at H
                                obtain ⟨rfl, rfl⟩ := H
                                go_wp2
                                go_ret2
                                exact ⟨by first | rfl | (simp; done) | (simp [*]; done), by repeat (first | exact Drawn0.refl _ | apply Drawn0.step)⟩
                              · rw [if_neg c28] at H
                                have c28b0 : (a1.toList == ([66, 105, 116] : List UInt8)) = false := beq_eq_false_iff_ne.mpr c28
                                have c28b1 : (a1.toList != ([66, 105, 116] : List UInt8)) = true := bne_iff_ne.mpr c28
                                by_cases c29 : a1.toList = ([73, 110] : List UInt8)
                                · rw [if_pos c29] at H
                                  have c29b0 : (a1.toList == ([73, 110] : List UInt8)) = true := beq_iff_eq.mpr c29
                                  have c29b1 : (a1.toList != ([73, 110] : List UInt8)) = false := bne_eq_false_iff_eq.mpr c29
                                  clear c29
                                  simp only [Option.some.injEq, Prod.mk.injEq] at H
                                  obtain ⟨rfl, rfl⟩ := H
                                  go_wp2
                                  go_ret2
                                  exact ⟨by first | rfl | (simp; done) | (simp [*]; done), by repeat (first | exact Drawn0.refl _ | apply Drawn0.step)⟩
                                · rw [if_neg c29] at H
                                  have c29b0 : (a1.toList == ([73, 110] : List UInt8)) = false := beq_eq_false_iff_ne.mpr c29
                                  have c29b1 : (a1.toList != ([73, 110] : List UInt8)) = true := bne_iff_ne.mpr c29
                                  by_cases c30 : a1.toList = ([79, 112, 101, 110] : List UInt8)
                                  · rw [if_pos c30] at H
                                    have c30b0 : (a1.toList == ([79, 112, 101, 110] : List UInt8)) = true := beq_iff_eq.mpr c30
                                    have c30b1 : (a1.toList != ([79, 112, 101, 110] : List UInt8)) = false := bne_eq_false_iff_eq.mpr c30
                                    clear c30
                                    simp only [Option.some.injEq, Prod.mk.injEq] at H
                                    obtain ⟨rfl, rfl⟩ := H
                                    go_wp2
                                    go_ret2
                                    exact ⟨by first | rfl | (simp; done) | (simp [*]; done), by repeat (first | exact Drawn0.refl _ | apply Drawn0.step)⟩
                                  · rw [if_neg c30] at H
                                    have c30b0 : (a1.toList == ([79, 112, 101, 110] : List UInt8)) = false := beq_eq_false_iff_ne.mpr c30
                                    have c30b1 : (a1.toList != ([79, 112, 101, 110] : List UInt8)) = true := bne_iff_ne.mpr c30
                                    simp only [Option.some.injEq, Prod.mk.injEq] at H
                                    obtain ⟨rfl, rfl⟩ := H
                                    go_wp2
                                    go_ret2
                                    exact ⟨by first | rfl | (simp; done) | (simp [*]; done), by repeat (first | exact Drawn0.refl _ | apply Drawn0.step)⟩

end Go.Proofs.Ytbjddomocggjmaa.Ppattern
