-- PRINTED BY print.sh 35421559b90ae4d0a3588c463048766b98c2df88dd9212a6774a882060cdf62d: not written by this session
import Derived.Test.YtbjddomocggjmaaPFragcheckChecksx0
import Derived.Test.YtbjddomocggjmaaPFragcheckChecksx6
namespace Go.Proofs.Ytbjddomocggjmaa.PFragcheckChecks
open Go.RowKit Go.Proofs.YtbjddomocggjmaaW.PrintWords Go.Proofs.YtbjddomocggjmaaW.PrintLast Go.Proofs.YtbjddomocggjmaaW.PrintMore
attribute [local go_sem] max2_int min2_int max_two min_two max_three min_three max_four min_four   -- for this text's walks alone
set_option linter.unusedVariables false
set_option linter.unusedSimpArgs false

/-! ### spandrelref20_right: function 63 -/
mutual
def spandrelref20_right.j0 : Nat → ByteArray → ByteArray → Bool → Option (Bool)
  | 0, _, _, _ => none
  | k + 1, x2, x35, x36 => if x36 = true then (some (x2.toList == ([] : List UInt8))) else (if x35.toList = ([73, 110, 116] : List UInt8) then (spandrelref20_right.j1 k x2 x35 (x35.toList == ([73, 110, 116] : List UInt8))) else (if x35.toList = ([66, 105, 116, 115] : List UInt8) then (spandrelref20_right.j1 k x2 x35 (x35.toList == ([66, 105, 116, 115] : List UInt8))) else (if x35.toList = ([79, 99, 116, 101, 116, 115] : List UInt8) then (spandrelref20_right.j1 k x2 x35 (x35.toList == ([79, 99, 116, 101, 116, 115] : List UInt8))) else (spandrelref20_right.j1 k x2 x35 (x35.toList == ([76, 105, 115, 116] : List UInt8))))))
def spandrelref20_right.j1 : Nat → ByteArray → ByteArray → Bool → Option (Bool)
  | 0, _, _, _ => none
  | k + 1, x2, x35, x48 => if x48 = true then ((spandrelref20_only.f k x2 (⟨#[110]⟩ : ByteArray) 110).bind fun t178 => (some t178)) else (if x35.toList = ([83, 116, 114] : List UInt8) then ((spandrelref20_only.f k x2 (⟨#[115, 110]⟩ : ByteArray) 110).bind fun t179 => (some t179)) else (if x35.toList = ([69, 110, 117, 109] : List UInt8) then ((spandrelref20_only.f k x2 (⟨#[110, 110, 115]⟩ : ByteArray) 115).bind fun t180 => (some t180)) else (if x35.toList = ([67, 104, 111, 105, 99, 101] : List UInt8) then ((spandrelref20_only.f k x2 (⟨#[110, 115]⟩ : ByteArray) 115).bind fun t181 => (some t181)) else (if x35.toList = ([83, 101, 113] : List UInt8) then (some (x2.toList == ([110] : List UInt8))) else (if x35.toList = ([68, 101, 102] : List UInt8) then (some (x2.toList == ([115, 110, 110, 115] : List UInt8))) else (if x35.toList = ([65, 100, 100, 115] : List UInt8) then ((spandrelref20_only.f k x2 (⟨#[]⟩ : ByteArray) 115).bind fun t182 => (some t182)) else (if x35.toList = ([66, 105, 116] : List UInt8) then (some (x2.toList == ([115] : List UInt8))) else (if x35.toList = ([73, 110] : List UInt8) then (some (x2.toList == ([115] : List UInt8))) else (if x35.toList = ([79, 112, 101, 110] : List UInt8) then (some (x2.toList == ([115] : List UInt8))) else (some false))))))))))
end
def spandrelref20_right.f (k : Nat) (a0 : Int) (a1 : ByteArray) (a2 : ByteArray) : Option (Bool) := if a0 = 3 then (if a1.toList = ([72, 97, 115] : List UInt8) then (if a2.toList = ([115] : List UInt8) then (some true) else (if a1.toList = ([77, 111, 114, 101] : List UInt8) then (some (a2.toList == ([] : List UInt8))) else (some false))) else (if a1.toList = ([73, 115] : List UInt8) then (if a2.toList = ([115] : List UInt8) then (some true) else (if a1.toList = ([77, 111, 114, 101] : List UInt8) then (some (a2.toList == ([] : List UInt8))) else (some false))) else (if a1.toList = ([77, 111, 114, 101] : List UInt8) then (some (a2.toList == ([] : List UInt8))) else (some false)))) else (if a0 = 4 then (if a1.toList = ([78, 101, 120, 116] : List UInt8) then (some (a2.toList == ([] : List UInt8))) else (some false)) else (if a1.toList = ([66, 111, 111, 108] : List UInt8) then (spandrelref20_right.j0 k a2 a1 (a1.toList == ([66, 111, 111, 108] : List UInt8))) else (if a1.toList = ([78, 117, 108, 108] : List UInt8) then (spandrelref20_right.j0 k a2 a1 (a1.toList == ([78, 117, 108, 108] : List UInt8))) else (if a1.toList = ([77, 97, 114, 107] : List UInt8) then (spandrelref20_right.j0 k a2 a1 (a1.toList == ([77, 97, 114, 107] : List UInt8))) else (if a1.toList = ([79, 117, 116] : List UInt8) then (spandrelref20_right.j0 k a2 a1 (a1.toList == ([79, 117, 116] : List UInt8))) else (if a1.toList = ([77, 97, 114, 107, 115] : List UInt8) then (spandrelref20_right.j0 k a2 a1 (a1.toList == ([77, 97, 114, 107, 115] : List UInt8))) else (if a1.toList = ([83, 104, 117, 116] : List UInt8) then (spandrelref20_right.j0 k a2 a1 (a1.toList == ([83, 104, 117, 116] : List UInt8))) else (if a1.toList = ([82, 101, 115, 116] : List UInt8) then (spandrelref20_right.j0 k a2 a1 (a1.toList == ([82, 101, 115, 116] : List UInt8))) else (if a1.toList = ([67, 108, 111, 115, 101] : List UInt8) then (spandrelref20_right.j0 k a2 a1 (a1.toList == ([67, 108, 111, 115, 101] : List UInt8))) else (spandrelref20_right.j0 k a2 a1 (a1.toList == ([80, 105, 99, 107] : List UInt8))))))))))))
theorem spandrelref20_right.mono_l : ∀ k, (∀ y0 y1 y2, LeO (spandrelref20_right.j0 k y0 y1 y2) (spandrelref20_right.j0 (k + 1) y0 y1 y2)) ∧ (∀ y0 y1 y2, LeO (spandrelref20_right.j1 k y0 y1 y2) (spandrelref20_right.j1 (k + 1) y0 y1 y2))
  | 0 => ⟨fun _ _ _ r h => by simp [spandrelref20_right.j0] at h, fun _ _ _ r h => by simp [spandrelref20_right.j1] at h⟩
  | k + 1 => by
    obtain ⟨ih0, ih1⟩ := spandrelref20_right.mono_l k
    refine ⟨?_, ?_⟩
    · intro y0 y1 y2
      unfold spandrelref20_right.j0
      repeat' first
      | (with_reducible exact ih0 _ _ _)
      | (with_reducible exact ih1 _ _ _)
      | (with_reducible exact spandrelref20_only.mono _ _ _ _)
      | (with_reducible exact LeO.refl _)
      | (with_reducible exact LeO.none _)
      | (with_reducible refine LeO.ite ?_ ?_)
      | (with_reducible refine LeO.bind ?_ (fun _ => ?_))
      | exact ih0 _ _ _
      | exact ih1 _ _ _
      | exact spandrelref20_only.mono _ _ _ _
      | exact LeO.none _
      | refine LeO.ite ?_ ?_
      | refine LeO.bind ?_ (fun _ => ?_)
    · intro y0 y1 y2
      unfold spandrelref20_right.j1
      repeat' first
      | (with_reducible exact ih0 _ _ _)
      | (with_reducible exact ih1 _ _ _)
      | (with_reducible exact spandrelref20_only.mono _ _ _ _)
      | (with_reducible exact LeO.refl _)
      | (with_reducible exact LeO.none _)
      | (with_reducible refine LeO.ite ?_ ?_)
      | (with_reducible refine LeO.bind ?_ (fun _ => ?_))
      | exact ih0 _ _ _
      | exact ih1 _ _ _
      | exact spandrelref20_only.mono _ _ _ _
      | exact LeO.none _
      | refine LeO.ite ?_ ?_
      | refine LeO.bind ?_ (fun _ => ?_)
theorem spandrelref20_right.mono : ∀ a0 a1 a2 k, LeO (spandrelref20_right.f k a0 a1 a2) (spandrelref20_right.f (k + 1) a0 a1 a2) := by
  intro a0 a1 a2 k
  obtain ⟨ih0, ih1⟩ := spandrelref20_right.mono_l k
  unfold spandrelref20_right.f
  repeat' first
      | (with_reducible exact ih0 _ _ _)
      | (with_reducible exact ih1 _ _ _)
      | (with_reducible exact spandrelref20_only.mono _ _ _ _)
      | (with_reducible exact LeO.refl _)
      | (with_reducible exact LeO.none _)
      | (with_reducible refine LeO.ite ?_ ?_)
      | (with_reducible refine LeO.bind ?_ (fun _ => ?_))
      | exact ih0 _ _ _
      | exact ih1 _ _ _
      | exact spandrelref20_only.mono _ _ _ _
      | exact LeO.none _
      | refine LeO.ite ?_ ?_
      | refine LeO.bind ?_ (fun _ => ?_)
set_option maxHeartbeats 8000000 in
set_option maxRecDepth 100000 in
theorem spandrelref20_right.calls (k : Nat) (a0 : Int) (a1 : ByteArray) (a2 : ByteArray) (r : Bool) (w : World) (h : spandrelref20_right.f k a0 a1 a2 = some r) :
    Calls Try.prog 63 #[.int .i64 a0, .string a1, .string a2] w fun e w' => e = .returned (.bool r) ∧ Drawn0 w w' := by
  have H : (if a0 = 3 then (if a1.toList = ([72, 97, 115] : List UInt8) then (if a2.toList = ([115] : List UInt8) then (some true) else (if a1.toList = ([77, 111, 114, 101] : List UInt8) then (some (a2.toList == ([] : List UInt8))) else (some false))) else (if a1.toList = ([73, 115] : List UInt8) then (if a2.toList = ([115] : List UInt8) then (some true) else (if a1.toList = ([77, 111, 114, 101] : List UInt8) then (some (a2.toList == ([] : List UInt8))) else (some false))) else (if a1.toList = ([77, 111, 114, 101] : List UInt8) then (some (a2.toList == ([] : List UInt8))) else (some false)))) else (if a0 = 4 then (if a1.toList = ([78, 101, 120, 116] : List UInt8) then (some (a2.toList == ([] : List UInt8))) else (some false)) else (if a1.toList = ([66, 111, 111, 108] : List UInt8) then (spandrelref20_right.j0 k a2 a1 (a1.toList == ([66, 111, 111, 108] : List UInt8))) else (if a1.toList = ([78, 117, 108, 108] : List UInt8) then (spandrelref20_right.j0 k a2 a1 (a1.toList == ([78, 117, 108, 108] : List UInt8))) else (if a1.toList = ([77, 97, 114, 107] : List UInt8) then (spandrelref20_right.j0 k a2 a1 (a1.toList == ([77, 97, 114, 107] : List UInt8))) else (if a1.toList = ([79, 117, 116] : List UInt8) then (spandrelref20_right.j0 k a2 a1 (a1.toList == ([79, 117, 116] : List UInt8))) else (if a1.toList = ([77, 97, 114, 107, 115] : List UInt8) then (spandrelref20_right.j0 k a2 a1 (a1.toList == ([77, 97, 114, 107, 115] : List UInt8))) else (if a1.toList = ([83, 104, 117, 116] : List UInt8) then (spandrelref20_right.j0 k a2 a1 (a1.toList == ([83, 104, 117, 116] : List UInt8))) else (if a1.toList = ([82, 101, 115, 116] : List UInt8) then (spandrelref20_right.j0 k a2 a1 (a1.toList == ([82, 101, 115, 116] : List UInt8))) else (if a1.toList = ([67, 108, 111, 115, 101] : List UInt8) then (spandrelref20_right.j0 k a2 a1 (a1.toList == ([67, 108, 111, 115, 101] : List UInt8))) else (spandrelref20_right.j0 k a2 a1 (a1.toList == ([80, 105, 99, 107] : List UInt8))))))))))))) = some r := h
  clear h
  by_cases c4 : a0 = 3
  · rw [if_pos c4] at H
    have c4b0 : (a0 == 3) = true := beq_iff_eq.mpr c4
    have c4b1 : (a0 != 3) = false := bne_eq_false_iff_eq.mpr c4
    clear c4
    by_cases c5 : a1.toList = ([72, 97, 115] : List UInt8)
    · rw [if_pos c5] at H
      have c5b0 : (a1.toList == ([72, 97, 115] : List UInt8)) = true := beq_iff_eq.mpr c5
      have c5b1 : (a1.toList != ([72, 97, 115] : List UInt8)) = false := bne_eq_false_iff_eq.mpr c5
      clear c5
      by_cases c6 : a2.toList = ([115] : List UInt8)
      · rw [if_pos c6] at H
        have c6b0 : (a2.toList == ([115] : List UInt8)) = true := beq_iff_eq.mpr c6
        have c6b1 : (a2.toList != ([115] : List UInt8)) = false := bne_eq_false_iff_eq.mpr c6
        clear c6
        obtain rfl := Option.some.inj H
        go_enter Try.func63, Try.ntmps63
        go_wp2
        go_ret
        exact ⟨by first | rfl | (simp; done) | (simp [*]; done), by repeat (first | exact Drawn0.refl _ | apply Drawn0.step)⟩
      · rw [if_neg c6] at H
        have c6b0 : (a2.toList == ([115] : List UInt8)) = false := beq_eq_false_iff_ne.mpr c6
        have c6b1 : (a2.toList != ([115] : List UInt8)) = true := bne_iff_ne.mpr c6
        by_cases c7 : a1.toList = ([77, 111, 114, 101] : List UInt8)
        · rw [if_pos c7] at H
          have c7b0 : (a1.toList == ([77, 111, 114, 101] : List UInt8)) = true := beq_iff_eq.mpr c7
          have c7b1 : (a1.toList != ([77, 111, 114, 101] : List UInt8)) = false := bne_eq_false_iff_eq.mpr c7
          clear c7
          obtain rfl := Option.some.inj H
          go_enter Try.func63, Try.ntmps63
          go_wp2
          go_ret
          exact ⟨by first | rfl | (simp; done) | (simp [*]; done), by repeat (first | exact Drawn0.refl _ | apply Drawn0.step)⟩
        · rw [if_neg c7] at H
          have c7b0 : (a1.toList == ([77, 111, 114, 101] : List UInt8)) = false := beq_eq_false_iff_ne.mpr c7
          have c7b1 : (a1.toList != ([77, 111, 114, 101] : List UInt8)) = true := bne_iff_ne.mpr c7
          obtain rfl := Option.some.inj H
          go_enter Try.func63, Try.ntmps63
          go_wp2
          go_ret
          exact ⟨by first | rfl | (simp; done) | (simp [*]; done), by repeat (first | exact Drawn0.refl _ | apply Drawn0.step)⟩
    · rw [if_neg c5] at H
      have c5b0 : (a1.toList == ([72, 97, 115] : List UInt8)) = false := beq_eq_false_iff_ne.mpr c5
      have c5b1 : (a1.toList != ([72, 97, 115] : List UInt8)) = true := bne_iff_ne.mpr c5
      by_cases c8 : a1.toList = ([73, 115] : List UInt8)
      · rw [if_pos c8] at H
        have c8b0 : (a1.toList == ([73, 115] : List UInt8)) = true := beq_iff_eq.mpr c8
        have c8b1 : (a1.toList != ([73, 115] : List UInt8)) = false := bne_eq_false_iff_eq.mpr c8
        clear c8
        by_cases c9 : a2.toList = ([115] : List UInt8)
        · rw [if_pos c9] at H
          have c9b0 : (a2.toList == ([115] : List UInt8)) = true := beq_iff_eq.mpr c9
          have c9b1 : (a2.toList != ([115] : List UInt8)) = false := bne_eq_false_iff_eq.mpr c9
          clear c9
          obtain rfl := Option.some.inj H
          go_enter Try.func63, Try.ntmps63
          go_wp2
          go_ret
          exact ⟨by first | rfl | (simp; done) | (simp [*]; done), by repeat (first | exact Drawn0.refl _ | apply Drawn0.step)⟩
        · rw [if_neg c9] at H
          have c9b0 : (a2.toList == ([115] : List UInt8)) = false := beq_eq_false_iff_ne.mpr c9
          have c9b1 : (a2.toList != ([115] : List UInt8)) = true := bne_iff_ne.mpr c9
          by_cases c10 : a1.toList = ([77, 111, 114, 101] : List UInt8)
          · rw [if_pos c10] at H
            have c10b0 : (a1.toList == ([77, 111, 114, 101] : List UInt8)) = true := beq_iff_eq.mpr c10
            have c10b1 : (a1.toList != ([77, 111, 114, 101] : List UInt8)) = false := bne_eq_false_iff_eq.mpr c10
            clear c10
            obtain rfl := Option.some.inj H
            go_enter Try.func63, Try.ntmps63
            go_wp2
            go_ret
            exact ⟨by first | rfl | (simp; done) | (simp [*]; done), by repeat (first | exact Drawn0.refl _ | apply Drawn0.step)⟩
          · rw [if_neg c10] at H
            have c10b0 : (a1.toList == ([77, 111, 114, 101] : List UInt8)) = false := beq_eq_false_iff_ne.mpr c10
            have c10b1 : (a1.toList != ([77, 111, 114, 101] : List UInt8)) = true := bne_iff_ne.mpr c10
            obtain rfl := Option.some.inj H
            go_enter Try.func63, Try.ntmps63
            go_wp2
            go_ret
            exact ⟨by first | rfl | (simp; done) | (simp [*]; done), by repeat (first | exact Drawn0.refl _ | apply Drawn0.step)⟩
      · rw [if_neg c8] at H
        have c8b0 : (a1.toList == ([73, 115] : List UInt8)) = false := beq_eq_false_iff_ne.mpr c8
        have c8b1 : (a1.toList != ([73, 115] : List UInt8)) = true := bne_iff_ne.mpr c8
        by_cases c11 : a1.toList = ([77, 111, 114, 101] : List UInt8)
        · rw [if_pos c11] at H
          have c11b0 : (a1.toList == ([77, 111, 114, 101] : List UInt8)) = true := beq_iff_eq.mpr c11
          have c11b1 : (a1.toList != ([77, 111, 114, 101] : List UInt8)) = false := bne_eq_false_iff_eq.mpr c11
          clear c11
          obtain rfl := Option.some.inj H
          go_enter Try.func63, Try.ntmps63
          go_wp2
          go_ret
          exact ⟨by first | rfl | (simp; done) | (simp [*]; done), by repeat (first | exact Drawn0.refl _ | apply Drawn0.step)⟩
        · rw [if_neg c11] at H
          have c11b0 : (a1.toList == ([77, 111, 114, 101] : List UInt8)) = false := beq_eq_false_iff_ne.mpr c11
          have c11b1 : (a1.toList != ([77, 111, 114, 101] : List UInt8)) = true := bne_iff_ne.mpr c11
          obtain rfl := Option.some.inj H
          go_enter Try.func63, Try.ntmps63
          go_wp2
          go_ret
          exact ⟨by first | rfl | (simp; done) | (simp [*]; done), by repeat (first | exact Drawn0.refl _ | apply Drawn0.step)⟩
  · rw [if_neg c4] at H
    have c4b0 : (a0 == 3) = false := beq_eq_false_iff_ne.mpr c4
    have c4b1 : (a0 != 3) = true := bne_iff_ne.mpr c4
    by_cases c12 : a0 = 4
    · rw [if_pos c12] at H
      have c12b0 : (a0 == 4) = true := beq_iff_eq.mpr c12
      have c12b1 : (a0 != 4) = false := bne_eq_false_iff_eq.mpr c12
      clear c12
      by_cases c13 : a1.toList = ([78, 101, 120, 116] : List UInt8)
      · rw [if_pos c13] at H
        have c13b0 : (a1.toList == ([78, 101, 120, 116] : List UInt8)) = true := beq_iff_eq.mpr c13
        have c13b1 : (a1.toList != ([78, 101, 120, 116] : List UInt8)) = false := bne_eq_false_iff_eq.mpr c13
        clear c13
        obtain rfl := Option.some.inj H
        go_enter Try.func63, Try.ntmps63
        go_wp2
        go_ret
        exact ⟨by first | rfl | (simp; done) | (simp [*]; done), by repeat (first | exact Drawn0.refl _ | apply Drawn0.step)⟩
      · rw [if_neg c13] at H
        have c13b0 : (a1.toList == ([78, 101, 120, 116] : List UInt8)) = false := beq_eq_false_iff_ne.mpr c13
        have c13b1 : (a1.toList != ([78, 101, 120, 116] : List UInt8)) = true := bne_iff_ne.mpr c13
        obtain rfl := Option.some.inj H
        go_enter Try.func63, Try.ntmps63
        go_wp2
        go_ret
        exact ⟨by first | rfl | (simp; done) | (simp [*]; done), by repeat (first | exact Drawn0.refl _ | apply Drawn0.step)⟩
    · rw [if_neg c12] at H
      have c12b0 : (a0 == 4) = false := beq_eq_false_iff_ne.mpr c12
      have c12b1 : (a0 != 4) = true := bne_iff_ne.mpr c12
      have HC14 := Aside0.mk H
      clear H
      go_enter Try.func63, Try.ntmps63
      go_upto_if 36 with (fail)
      go_cut [36] (fun v36 wc => ∃ (kq : Nat) (x36_13 : Bool), v36 = .bool x36_13 ∧ Aside0 (spandrelref20_right.j0 kq a2 a1 x36_13 = some r) ∧ Aside0 (kq ≤ k) ∧ Drawn0 w wc)
      case first =>
        have H := HC14.out
        clear HC14
        by_cases c15 : a1.toList = ([66, 111, 111, 108] : List UInt8)
        · rw [if_pos c15] at H
          have c15b0 : (a1.toList == ([66, 111, 111, 108] : List UInt8)) = true := beq_iff_eq.mpr c15
          have c15b1 : (a1.toList != ([66, 111, 111, 108] : List UInt8)) = false := bne_eq_false_iff_eq.mpr c15
          clear c15
          (first | rw [c15b0] | (simp only [i64_w, i32_w]; rw [c15b0]) | skip)
          have H' := Aside0.mk H
          clear H
          go_wp2
          go_meet
          case rel => exact ⟨_, ((a1.toList == ([66, 111, 111, 108] : List UInt8))), (by first | rfl | (simp; done) | (simp [*]; done)), H', ⟨by first | omega | exact Nat.le_refl _⟩, by repeat (first | exact Drawn0.refl _ | apply Drawn0.step)⟩
        · rw [if_neg c15] at H
          have c15b0 : (a1.toList == ([66, 111, 111, 108] : List UInt8)) = false := beq_eq_false_iff_ne.mpr c15
          have c15b1 : (a1.toList != ([66, 111, 111, 108] : List UInt8)) = true := bne_iff_ne.mpr c15
          (first | rw [c15b0] | (simp only [i64_w, i32_w]; rw [c15b0]) | skip)
          by_cases c16 : a1.toList = ([78, 117, 108, 108] : List UInt8)
          · rw [if_pos c16] at H
            have c16b0 : (a1.toList == ([78, 117, 108, 108] : List UInt8)) = true := beq_iff_eq.mpr c16
            have c16b1 : (a1.toList != ([78, 117, 108, 108] : List UInt8)) = false := bne_eq_false_iff_eq.mpr c16
            clear c16
            have H' := Aside0.mk H
            clear H
            go_wp2
            go_meet
            case rel => exact ⟨_, ((a1.toList == ([78, 117, 108, 108] : List UInt8))), (by first | rfl | (simp; done) | (simp [*]; done)), H', ⟨by first | omega | exact Nat.le_refl _⟩, by repeat (first | exact Drawn0.refl _ | apply Drawn0.step)⟩
          · rw [if_neg c16] at H
            have c16b0 : (a1.toList == ([78, 117, 108, 108] : List UInt8)) = false := beq_eq_false_iff_ne.mpr c16
            have c16b1 : (a1.toList != ([78, 117, 108, 108] : List UInt8)) = true := bne_iff_ne.mpr c16
            by_cases c17 : a1.toList = ([77, 97, 114, 107] : List UInt8)
            · rw [if_pos c17] at H
              have c17b0 : (a1.toList == ([77, 97, 114, 107] : List UInt8)) = true := beq_iff_eq.mpr c17
              have c17b1 : (a1.toList != ([77, 97, 114, 107] : List UInt8)) = false := bne_eq_false_iff_eq.mpr c17
              clear c17
              have H' := Aside0.mk H
              clear H
              go_wp2
              go_meet
              case rel => exact ⟨_, ((a1.toList == ([77, 97, 114, 107] : List UInt8))), (by first | rfl | (simp; done) | (simp [*]; done)), H', ⟨by first | omega | exact Nat.le_refl _⟩, by repeat (first | exact Drawn0.refl _ | apply Drawn0.step)⟩
            · rw [if_neg c17] at H
              have c17b0 : (a1.toList == ([77, 97, 114, 107] : List UInt8)) = false := beq_eq_false_iff_ne.mpr c17
              have c17b1 : (a1.toList != ([77, 97, 114, 107] : List UInt8)) = true := bne_iff_ne.mpr c17
              by_cases c18 : a1.toList = ([79, 117, 116] : List UInt8)
              · rw [if_pos c18] at H
                have c18b0 : (a1.toList == ([79, 117, 116] : List UInt8)) = true := beq_iff_eq.mpr c18
                have c18b1 : (a1.toList != ([79, 117, 116] : List UInt8)) = false := bne_eq_false_iff_eq.mpr c18
                clear c18
                have H' := Aside0.mk H
                clear H
                go_wp2
                go_meet
                case rel => exact ⟨_, ((a1.toList == ([79, 117, 116] : List UInt8))), (by first | rfl | (simp; done) | (simp [*]; done)), H', ⟨by first | omega | exact Nat.le_refl _⟩, by repeat (first | exact Drawn0.refl _ | apply Drawn0.step)⟩
              · rw [if_neg c18] at H
                have c18b0 : (a1.toList == ([79, 117, 116] : List UInt8)) = false := beq_eq_false_iff_ne.mpr c18
                have c18b1 : (a1.toList != ([79, 117, 116] : List UInt8)) = true := bne_iff_ne.mpr c18
                by_cases c19 : a1.toList = ([77, 97, 114, 107, 115] : List UInt8)
                · rw [if_pos c19] at H
                  have c19b0 : (a1.toList == ([77, 97, 114, 107, 115] : List UInt8)) = true := beq_iff_eq.mpr c19
                  have c19b1 : (a1.toList != ([77, 97, 114, 107, 115] : List UInt8)) = false := bne_eq_false_iff_eq.mpr c19
                  clear c19
                  have H' := Aside0.mk H
                  clear H
                  go_wp2
                  go_meet
                  case rel => exact ⟨_, ((a1.toList == ([77, 97, 114, 107, 115] : List UInt8))), (by first | rfl | (simp; done) | (simp [*]; done)), H', ⟨by first | omega | exact Nat.le_refl _⟩, by repeat (first | exact Drawn0.refl _ | apply Drawn0.step)⟩
                · rw [if_neg c19] at H
                  have c19b0 : (a1.toList == ([77, 97, 114, 107, 115] : List UInt8)) = false := beq_eq_false_iff_ne.mpr c19
                  have c19b1 : (a1.toList != ([77, 97, 114, 107, 115] : List UInt8)) = true := bne_iff_ne.mpr c19
                  by_cases c20 : a1.toList = ([83, 104, 117, 116] : List UInt8)
                  · rw [if_pos c20] at H
                    have c20b0 : (a1.toList == ([83, 104, 117, 116] : List UInt8)) = true := beq_iff_eq.mpr c20
                    have c20b1 : (a1.toList != ([83, 104, 117, 116] : List UInt8)) = false := bne_eq_false_iff_eq.mpr c20
                    clear c20
                    have H' := Aside0.mk H
                    clear H
                    go_wp2
                    go_meet
                    case rel => exact ⟨_, ((a1.toList == ([83, 104, 117, 116] : List UInt8))), (by first | rfl | (simp; done) | (simp [*]; done)), H', ⟨by first | omega | exact Nat.le_refl _⟩, by repeat (first | exact Drawn0.refl _ | apply Drawn0.step)⟩
                  · rw [if_neg c20] at H
                    have c20b0 : (a1.toList == ([83, 104, 117, 116] : List UInt8)) = false := beq_eq_false_iff_ne.mpr c20
                    have c20b1 : (a1.toList != ([83, 104, 117, 116] : List UInt8)) = true := bne_iff_ne.mpr c20
                    by_cases c21 : a1.toList = ([82, 101, 115, 116] : List UInt8)
                    · rw [if_pos c21] at H
                      have c21b0 : (a1.toList == ([82, 101, 115, 116] : List UInt8)) = true := beq_iff_eq.mpr c21
                      have c21b1 : (a1.toList != ([82, 101, 115, 116] : List UInt8)) = false := bne_eq_false_iff_eq.mpr c21
                      clear c21
                      have H' := Aside0.mk H
                      clear H
                      go_wp2
                      go_meet
                      case rel => exact ⟨_, ((a1.toList == ([82, 101, 115, 116] : List UInt8))), (by first | rfl | (simp; done) | (simp [*]; done)), H', ⟨by first | omega | exact Nat.le_refl _⟩, by repeat (first | exact Drawn0.refl _ | apply Drawn0.step)⟩
                    · rw [if_neg c21] at H
                      have c21b0 : (a1.toList == ([82, 101, 115, 116] : List UInt8)) = false := beq_eq_false_iff_ne.mpr c21
                      have c21b1 : (a1.toList != ([82, 101, 115, 116] : List UInt8)) = true := bne_iff_ne.mpr c21
                      by_cases c22 : a1.toList = ([67, 108, 111, 115, 101] : List UInt8)
                      · rw [if_pos c22] at H
                        have c22b0 : (a1.toList == ([67, 108, 111, 115, 101] : List UInt8)) = true := beq_iff_eq.mpr c22
                        have c22b1 : (a1.toList != ([67, 108, 111, 115, 101] : List UInt8)) = false := bne_eq_false_iff_eq.mpr c22
                        clear c22
                        have H' := Aside0.mk H
                        clear H
                        go_wp2
                        go_meet
                        case rel => exact ⟨_, ((a1.toList == ([67, 108, 111, 115, 101] : List UInt8))), (by first | rfl | (simp; done) | (simp [*]; done)), H', ⟨by first | omega | exact Nat.le_refl _⟩, by repeat (first | exact Drawn0.refl _ | apply Drawn0.step)⟩
                      · rw [if_neg c22] at H
                        have c22b0 : (a1.toList == ([67, 108, 111, 115, 101] : List UInt8)) = false := beq_eq_false_iff_ne.mpr c22
                        have c22b1 : (a1.toList != ([67, 108, 111, 115, 101] : List UInt8)) = true := bne_iff_ne.mpr c22
                        have H' := Aside0.mk H
                        clear H
                        go_wp2
                        go_meet
                        case rel => exact ⟨_, ((a1.toList == ([80, 105, 99, 107] : List UInt8))), (by first | rfl | (simp; done) | (simp [*]; done)), H', ⟨by first | omega | exact Nat.le_refl _⟩, by repeat (first | exact Drawn0.refl _ | apply Drawn0.step)⟩
      case rest =>
        clear HC14
        try clear c1
        try clear c2
        try clear p2
        try clear c4
        try clear c4b0
        try clear c4b1
        try clear c5
        try clear c5b0
        try clear c5b1
        try clear c6
        try clear c6b0
        try clear c6b1
        try clear c7
        try clear c7b0
        try clear c7b1
        try clear c8
        try clear c8b0
        try clear c8b1
        try clear c9
        try clear c9b0
        try clear c9b1
        try clear c10
        try clear c10b0
        try clear c10b1
        try clear c11
        try clear c11b0
        try clear c11b1
        try clear c12
        try clear c12b0
        try clear c12b1
        try clear c13
        try clear c13b0
        try clear c13b1
        try clear c15
        try clear c15b0
        try clear c15b1
        try clear c16
        try clear c16b0
        try clear c16b1
        try clear c17
        try clear c17b0
        try clear c17b1
        try clear c18
        try clear c18b0
        try clear c18b1
        try clear c19
        try clear c19b0
        try clear c19b1
        try clear c20
        try clear c20b0
        try clear c20b1
        try clear c21
        try clear c21b0
        try clear c21b1
        try clear c22
        try clear c22b0
        try clear c22b1
        obtain ⟨kq, x36_13, rfl, HA, HJ13, ⟨mc13, rfl⟩⟩ := hcut
        cases kq with
        | zero => exact absurd HA.out (by simp [spandrelref20_right.j0])
        | succ kj13 =>
          have H := HA.out
          clear HA
          simp only [spandrelref20_right.j0] at H
          by_cases c23 : x36_13 = true
          · subst c23
            have H1 : (some (a2.toList == ([] : List UInt8))) = some r := by rw [if_pos rfl] at H; exact H
            clear H
            have H := H1
            clear H1
            obtain rfl := Option.some.inj H
            go_wp2
            go_ret
            exact ⟨by first | rfl | (simp; done) | (simp [*]; done), by repeat (first | exact Drawn0.refl _ | apply Drawn0.step)⟩
          · replace c23 := Bool.eq_false_iff.mpr c23
            subst c23
            have H1 : (if a1.toList = ([73, 110, 116] : List UInt8) then (spandrelref20_right.j1 kj13 a2 a1 (a1.toList == ([73, 110, 116] : List UInt8))) else (if a1.toList = ([66, 105, 116, 115] : List UInt8) then (spandrelref20_right.j1 kj13 a2 a1 (a1.toList == ([66, 105, 116, 115] : List UInt8))) else (if a1.toList = ([79, 99, 116, 101, 116, 115] : List UInt8) then (spandrelref20_right.j1 kj13 a2 a1 (a1.toList == ([79, 99, 116, 101, 116, 115] : List UInt8))) else (spandrelref20_right.j1 kj13 a2 a1 (a1.toList == ([76, 105, 115, 116] : List UInt8)))))) = some r := by rw [if_neg (show ¬ (false = true) by decide)] at H; exact H
            clear H
            have H := H1
            clear H1
            have HC24 := Aside0.mk H
            clear H
            go_upto_if 48 with (fail)
            go_cut [48] (fun v48 wc => ∃ (kq : Nat) (x48_23 : Bool), v48 = .bool x48_23 ∧ Aside0 (spandrelref20_right.j1 kq a2 a1 x48_23 = some r) ∧ Aside0 (kq ≤ kj13) ∧ Drawn0 w wc)
            case first =>
              have H := HC24.out
              clear HC24
              by_cases c25 : a1.toList = ([73, 110, 116] : List UInt8)
              · rw [if_pos c25] at H
                have c25b0 : (a1.toList == ([73, 110, 116] : List UInt8)) = true := beq_iff_eq.mpr c25
                have c25b1 : (a1.toList != ([73, 110, 116] : List UInt8)) = false := bne_eq_false_iff_eq.mpr c25
                clear c25
                (first | rw [c25b0] | (simp only [i64_w, i32_w]; rw [c25b0]) | skip)
                have H' := Aside0.mk H
                clear H
                go_wp2
                go_meet
                case rel => exact ⟨_, ((a1.toList == ([73, 110, 116] : List UInt8))), (by first | rfl | (simp; done) | (simp [*]; done)), H', ⟨by have := HJ13.out; first | omega | exact Nat.le_refl _⟩, by repeat (first | exact Drawn0.refl _ | apply Drawn0.step)⟩
              · rw [if_neg c25] at H
                have c25b0 : (a1.toList == ([73, 110, 116] : List UInt8)) = false := beq_eq_false_iff_ne.mpr c25
                have c25b1 : (a1.toList != ([73, 110, 116] : List UInt8)) = true := bne_iff_ne.mpr c25
                (first | rw [c25b0] | (simp only [i64_w, i32_w]; rw [c25b0]) | skip)
                by_cases c26 : a1.toList = ([66, 105, 116, 115] : List UInt8)
                · rw [if_pos c26] at H
                  have c26b0 : (a1.toList == ([66, 105, 116, 115] : List UInt8)) = true := beq_iff_eq.mpr c26
                  have c26b1 : (a1.toList != ([66, 105, 116, 115] : List UInt8)) = false := bne_eq_false_iff_eq.mpr c26
                  clear c26
                  have H' := Aside0.mk H
                  clear H
                  go_wp2
                  go_meet
                  case rel => exact ⟨_, ((a1.toList == ([66, 105, 116, 115] : List UInt8))), (by first | rfl | (simp; done) | (simp [*]; done)), H', ⟨by have := HJ13.out; first | omega | exact Nat.le_refl _⟩, by repeat (first | exact Drawn0.refl _ | apply Drawn0.step)⟩
                · rw [if_neg c26] at H
                  have c26b0 : (a1.toList == ([66, 105, 116, 115] : List UInt8)) = false := beq_eq_false_iff_ne.mpr c26
                  have c26b1 : (a1.toList != ([66, 105, 116, 115] : List UInt8)) = true := bne_iff_ne.mpr c26
                  by_cases c27 : a1.toList = ([79, 99, 116, 101, 116, 115] : List UInt8)
                  · rw [if_pos c27] at H
                    have c27b0 : (a1.toList == ([79, 99, 116, 101, 116, 115] : List UInt8)) = true := beq_iff_eq.mpr c27
                    have c27b1 : (a1.toList != ([79, 99, 116, 101, 116, 115] : List UInt8)) = false := bne_eq_false_iff_eq.mpr c27
                    clear c27
                    have H' := Aside0.mk H
                    clear H
                    go_wp2
                    go_meet
                    case rel => exact ⟨_, ((a1.toList == ([79, 99, 116, 101, 116, 115] : List UInt8))), (by first | rfl | (simp; done) | (simp [*]; done)), H', ⟨by have := HJ13.out; first | omega | exact Nat.le_refl _⟩, by repeat (first | exact Drawn0.refl _ | apply Drawn0.step)⟩
                  · rw [if_neg c27] at H
                    have c27b0 : (a1.toList == ([79, 99, 116, 101, 116, 115] : List UInt8)) = false := beq_eq_false_iff_ne.mpr c27
                    have c27b1 : (a1.toList != ([79, 99, 116, 101, 116, 115] : List UInt8)) = true := bne_iff_ne.mpr c27
                    have H' := Aside0.mk H
                    clear H
                    go_wp2
                    go_meet
                    case rel => exact ⟨_, ((a1.toList == ([76, 105, 115, 116] : List UInt8))), (by first | rfl | (simp; done) | (simp [*]; done)), H', ⟨by have := HJ13.out; first | omega | exact Nat.le_refl _⟩, by repeat (first | exact Drawn0.refl _ | apply Drawn0.step)⟩
            case rest =>
              clear HC24
              try clear c1
              try clear c2
              try clear p2
              try clear c4
              try clear c4b0
              try clear c4b1
              try clear c5
              try clear c5b0
              try clear c5b1
              try clear c6
              try clear c6b0
              try clear c6b1
              try clear c7
              try clear c7b0
              try clear c7b1
              try clear c8
              try clear c8b0
              try clear c8b1
              try clear c9
              try clear c9b0
              try clear c9b1
              try clear c10
              try clear c10b0
              try clear c10b1
              try clear c11
              try clear c11b0
              try clear c11b1
              try clear c12
              try clear c12b0
              try clear c12b1
              try clear c13
              try clear c13b0
              try clear c13b1
              try clear c15
              try clear c15b0
              try clear c15b1
              try clear c16
              try clear c16b0
              try clear c16b1
              try clear c17
              try clear c17b0
              try clear c17b1
              try clear c18
              try clear c18b0
              try clear c18b1
              try clear c19
              try clear c19b0
              try clear c19b1
              try clear c20
              try clear c20b0
              try clear c20b1
              try clear c21
              try clear c21b0
              try clear c21b1
              try clear c22
              try clear c22b0
              try clear c22b1
              try clear c23
              try clear c25
              try clear c25b0
              try clear c25b1
              try clear c26
              try clear c26b0
              try clear c26b1
              try clear c27
              try clear c27b0
              try clear c27b1
              try clear p2
              obtain ⟨kq, x48_23, rfl, HA, HJ23, ⟨mc23, rfl⟩⟩ := hcut
              cases kq with
              | zero => exact absurd HA.out (by simp [spandrelref20_right.j1])
              | succ kj23 =>
                have H := HA.out
                clear HA
                simp only [spandrelref20_right.j1] at H
                by_cases c28 : x48_23 = true
                · subst c28
                  have H1 : ((spandrelref20_only.f kj23 a2 (⟨#[110]⟩ : ByteArray) 110).bind fun t178 => (some t178)) = some r := by rw [if_pos rfl] at H; exact H
                  clear H
                  have H := H1
                  clear H1
                  replace H := Option.bind_eq_some_iff.mp H
                  obtain ⟨t178, A290, H⟩ := H
                  replace H : (some t178) = some r := H
                  have A29 := Aside0.mk A290
                  clear A290
                  obtain rfl := Option.some.inj H
                  go_wp2_with (first | ((with_reducible refine gate_callee (f := 103) rfl ?_); refine goesL_ (some 54) rfl rfl Try.func103 (by kernel_rfl) rfl #[.string a2, .string (⟨#[110]⟩ : ByteArray), .int .u8 110] rfl (by (try simp only [List.map_toArray, List.map_cons, List.map_nil]); first | done | rfl | (simp only [List.length_drop, List.length_take]; rfl)) ?_; (with_reducible refine (spandrelref20_only.calls kj23 a2 (⟨#[110]⟩ : ByteArray) 110 t178 _ A29.out).mono ?_); rintro e w' ⟨rfl, ⟨nd, rfl⟩⟩; refine ⟨_, rfl, ?_⟩))
                  go_ret
                  exact ⟨by first | rfl | (simp; done) | (simp [*]; done), by repeat (first | exact Drawn0.refl _ | apply Drawn0.step)⟩
                · replace c28 := Bool.eq_false_iff.mpr c28
                  subst c28
                  have H1 : (if a1.toList = ([83, 116, 114] : List UInt8) then ((spandrelref20_only.f kj23 a2 (⟨#[115, 110]⟩ : ByteArray) 110).bind fun t179 => (some t179)) else (if a1.toList = ([69, 110, 117, 109] : List UInt8) then ((spandrelref20_only.f kj23 a2 (⟨#[110, 110, 115]⟩ : ByteArray) 115).bind fun t180 => (some t180)) else (if a1.toList = ([67, 104, 111, 105, 99, 101] : List UInt8) then ((spandrelref20_only.f kj23 a2 (⟨#[110, 115]⟩ : ByteArray) 115).bind fun t181 => (some t181)) else (if a1.toList = ([83, 101, 113] : List UInt8) then (some (a2.toList == ([110] : List UInt8))) else (if a1.toList = ([68, 101, 102] : List UInt8) then (some (a2.toList == ([115, 110, 110, 115] : List UInt8))) else (if a1.toList = ([65, 100, 100, 115] : List UInt8) then ((spandrelref20_only.f kj23 a2 (⟨#[]⟩ : ByteArray) 115).bind fun t182 => (some t182)) else (if a1.toList = ([66, 105, 116] : List UInt8) then (some (a2.toList == ([115] : List UInt8))) else (if a1.toList = ([73, 110] : List UInt8) then (some (a2.toList == ([115] : List UInt8))) else (if a1.toList = ([79, 112, 101, 110] : List UInt8) then (some (a2.toList == ([115] : List UInt8))) else (some false)))))))))) = some r := by rw [if_neg (show ¬ (false = true) by decide)] at H; exact H
                  clear H
                  have H := H1
                  clear H1
                  by_cases c30 : a1.toList = ([83, 116, 114] : List UInt8)
                  · rw [if_pos c30] at H
                    have c30b0 : (a1.toList == ([83, 116, 114] : List UInt8)) = true := beq_iff_eq.mpr c30
                    have c30b1 : (a1.toList != ([83, 116, 114] : List UInt8)) = false := bne_eq_false_iff_eq.mpr c30
                    clear c30
                    replace H := Option.bind_eq_some_iff.mp H
                    obtain ⟨t179, A310, H⟩ := H
                    replace H : (some t179) = some r := H
                    have A31 := Aside0.mk A310
                    clear A310
                    obtain rfl := Option.some.inj H
                    go_wp2_with (first | ((with_reducible refine gate_callee (f := 103) rfl ?_); refine goesL_ (some 58) rfl rfl Try.func103 (by kernel_rfl) rfl #[.string a2, .string (⟨#[115, 110]⟩ : ByteArray), .int .u8 110] rfl (by (try simp only [List.map_toArray, List.map_cons, List.map_nil]); first | done | rfl | (simp only [List.length_drop, List.length_take]; rfl)) ?_; (with_reducible refine (spandrelref20_only.calls kj23 a2 (⟨#[115, 110]⟩ : ByteArray) 110 t179 _ A31.out).mono ?_); rintro e w' ⟨rfl, ⟨nd, rfl⟩⟩; refine ⟨_, rfl, ?_⟩))
                    go_ret
                    exact ⟨by first | rfl | (simp; done) | (simp [*]; done), by repeat (first | exact Drawn0.refl _ | apply Drawn0.step)⟩
                  · rw [if_neg c30] at H
                    have c30b0 : (a1.toList == ([83, 116, 114] : List UInt8)) = false := beq_eq_false_iff_ne.mpr c30
                    have c30b1 : (a1.toList != ([83, 116, 114] : List UInt8)) = true := bne_iff_ne.mpr c30
                    by_cases c32 : a1.toList = ([69, 110, 117, 109] : List UInt8)
                    · rw [if_pos c32] at H
                      have c32b0 : (a1.toList == ([69, 110, 117, 109] : List UInt8)) = true := beq_iff_eq.mpr c32
                      have c32b1 : (a1.toList != ([69, 110, 117, 109] : List UInt8)) = false := bne_eq_false_iff_eq.mpr c32
                      clear c32
                      replace H := Option.bind_eq_some_iff.mp H
                      obtain ⟨t180, A330, H⟩ := H
                      replace H : (some t180) = some r := H
                      have A33 := Aside0.mk A330
                      clear A330
                      obtain rfl := Option.some.inj H
                      go_wp2_with (first | ((with_reducible refine gate_callee (f := 103) rfl ?_); refine goesL_ (some 62) rfl rfl Try.func103 (by kernel_rfl) rfl #[.string a2, .string (⟨#[110, 110, 115]⟩ : ByteArray), .int .u8 115] rfl (by (try simp only [List.map_toArray, List.map_cons, List.map_nil]); first | done | rfl | (simp only [List.length_drop, List.length_take]; rfl)) ?_; (with_reducible refine (spandrelref20_only.calls kj23 a2 (⟨#[110, 110, 115]⟩ : ByteArray) 115 t180 _ A33.out).mono ?_); rintro e w' ⟨rfl, ⟨nd, rfl⟩⟩; refine ⟨_, rfl, ?_⟩))
                      go_ret
                      exact ⟨by first | rfl | (simp; done) | (simp [*]; done), by repeat (first | exact Drawn0.refl _ | apply Drawn0.step)⟩
                    · rw [if_neg c32] at H
                      have c32b0 : (a1.toList == ([69, 110, 117, 109] : List UInt8)) = false := beq_eq_false_iff_ne.mpr c32
                      have c32b1 : (a1.toList != ([69, 110, 117, 109] : List UInt8)) = true := bne_iff_ne.mpr c32
                      by_cases c34 : a1.toList = ([67, 104, 111, 105, 99, 101] : List UInt8)
                      · rw [if_pos c34] at H
                        have c34b0 : (a1.toList == ([67, 104, 111, 105, 99, 101] : List UInt8)) = true := beq_iff_eq.mpr c34
                        have c34b1 : (a1.toList != ([67, 104, 111, 105, 99, 101] : List UInt8)) = false := bne_eq_false_iff_eq.mpr c34
                        clear c34
                        replace H := Option.bind_eq_some_iff.mp H
                        obtain ⟨t181, A350, H⟩ := H
                        replace H : (some t181) = some r := H
                        have A35 := Aside0.mk A350
                        clear A350
                        obtain rfl := Option.some.inj H
                        go_wp2_with (first | ((with_reducible refine gate_callee (f := 103) rfl ?_); refine goesL_ (some 66) rfl rfl Try.func103 (by kernel_rfl) rfl #[.string a2, .string (⟨#[110, 115]⟩ : ByteArray), .int .u8 115] rfl (by (try simp only [List.map_toArray, List.map_cons, List.map_nil]); first | done | rfl | (simp only [List.length_drop, List.length_take]; rfl)) ?_; (with_reducible refine (spandrelref20_only.calls kj23 a2 (⟨#[110, 115]⟩ : ByteArray) 115 t181 _ A35.out).mono ?_); rintro e w' ⟨rfl, ⟨nd, rfl⟩⟩; refine ⟨_, rfl, ?_⟩))
                        go_ret
                        exact ⟨by first | rfl | (simp; done) | (simp [*]; done), by repeat (first | exact Drawn0.refl _ | apply Drawn0.step)⟩
                      · rw [if_neg c34] at H
                        have c34b0 : (a1.toList == ([67, 104, 111, 105, 99, 101] : List UInt8)) = false := beq_eq_false_iff_ne.mpr c34
                        have c34b1 : (a1.toList != ([67, 104, 111, 105, 99, 101] : List UInt8)) = true := bne_iff_ne.mpr c34
                        by_cases c36 : a1.toList = ([83, 101, 113] : List UInt8)
                        · rw [if_pos c36] at H
                          have c36b0 : (a1.toList == ([83, 101, 113] : List UInt8)) = true := beq_iff_eq.mpr c36
                          have c36b1 : (a1.toList != ([83, 101, 113] : List UInt8)) = false := bne_eq_false_iff_eq.mpr c36
                          clear c36
                          obtain rfl := Option.some.inj H
                          go_wp2
                          go_ret
                          exact ⟨by first | rfl | (simp; done) | (simp [*]; done), by repeat (first | exact Drawn0.refl _ | apply Drawn0.step)⟩
                        · rw [if_neg c36] at H
                          have c36b0 : (a1.toList == ([83, 101, 113] : List UInt8)) = false := beq_eq_false_iff_ne.mpr c36
                          have c36b1 : (a1.toList != ([83, 101, 113] : List UInt8)) = true := bne_iff_ne.mpr c36
                          by_cases c37 : a1.toList = ([68, 101, 102] : List UInt8)
                          · rw [if_pos c37] at H
                            have c37b0 : (a1.toList == ([68, 101, 102] : List UInt8)) = true := beq_iff_eq.mpr c37
                            have c37b1 : (a1.toList != ([68, 101, 102] : List UInt8)) = false := bne_eq_false_iff_eq.mpr c37
                            clear c37
                            obtain rfl := Option.some.inj H
                            go_wp2
                            go_ret
                            exact ⟨by first | rfl | (simp; done) | (simp [*]; done), by repeat (first | exact Drawn0.refl _ | apply Drawn0.step)⟩
                          · rw [if_neg c37] at H
                            have c37b0 : (a1.toList == ([68, 101, 102] : List UInt8)) = false := beq_eq_false_iff_ne.mpr c37
                            have c37b1 : (a1.toList != ([68, 101, 102] : List UInt8)) = true := bne_iff_ne.mpr c37
                            by_cases c38 : a1.toList = ([65, 100, 100, 115] : List UInt8)
                            · rw [if_pos c38] at H
                              have c38b0 : (a1.toList == ([65, 100, 100, 115] : List UInt8)) = true := beq_iff_eq.mpr c38
                              have c38b1 : (a1.toList != ([65, 100, 100, 115] : List UInt8)) = false := bne_eq_false_iff_eq.mpr c38
                              clear c38
                              replace H := Option.bind_eq_some_iff.mp H
                              obtain ⟨t182, A390, H⟩ := H
                              replace H : (some t182) = some r := H
                              have A39 := Aside0.mk A390
                              clear A390
                              obtain rfl := Option.some.inj H
                              go_wp2_with (first | ((with_reducible refine gate_callee (f := 103) rfl ?_); refine goesL_ (some 78) rfl rfl Try.func103 (by kernel_rfl) rfl #[.string a2, .string (⟨#[]⟩ : ByteArray), .int .u8 115] rfl (by (try simp only [List.map_toArray, List.map_cons, List.map_nil]); first | done | rfl | (simp only [List.length_drop, List.length_take]; rfl)) ?_; (with_reducible refine (spandrelref20_only.calls kj23 a2 (⟨#[]⟩ : ByteArray) 115 t182 _ A39.out).mono ?_); rintro e w' ⟨rfl, ⟨nd, rfl⟩⟩; refine ⟨_, rfl, ?_⟩))
                              go_ret
                              exact ⟨by first | rfl | (simp; done) | (simp [*]; done), by repeat (first | exact Drawn0.refl _ | apply Drawn0.step)⟩
                            · rw [if_neg c38] at H
                              have c38b0 : (a1.toList == ([65, 100, 100, 115] : List UInt8)) = false := beq_eq_false_iff_ne.mpr c38
                              have c38b1 : (a1.toList != ([65, 100, 100, 115] : List UInt8)) = true := bne_iff_ne.mpr c38
                              by_cases c40 : a1.toList = ([66, 105, 116] : List UInt8)
                              · rw [if_pos c40] at H
                                have c40b0 : (a1.toList == ([66, 105, 116] : List UInt8)) = true := beq_iff_eq.mpr c40
                                have c40b1 : (a1.toList != ([66, 105, 116] : List UInt8)) = false := bne_eq_false_iff_eq.mpr c40
                                clear c40
                                obtain rfl := Option.some.inj H
                                go_wp2
                                go_ret
                                exact ⟨by first | rfl | (simp; done) | (simp [*]; done), by repeat (first | exact Drawn0.refl _ | apply Drawn0.step)⟩
                              · rw [if_neg c40] at H
                                have c40b0 : (a1.toList == ([66, 105, 116] : List UInt8)) = false := beq_eq_false_iff_ne.mpr c40
                                have c40b1 : (a1.toList != ([66, 105, 116] : List UInt8)) = true := bne_iff_ne.mpr c40
                                by_cases c41 : a1.toList = ([73, 110] : List UInt8)
                                · rw [if_pos c41] at H
                                  have c41b0 : (a1.toList == ([73, 110] : List UInt8)) = true := beq_iff_eq.mpr c41
                                  have c41b1 : (a1.toList != ([73, 110] : List UInt8)) = false := bne_eq_false_iff_eq.mpr c41
                                  clear c41
                                  obtain rfl := Option.some.inj H
                                  go_wp2
                                  go_ret
                                  exact ⟨by first | rfl | (simp; done) | (simp [*]; done), by repeat (first | exact Drawn0.refl _ | apply Drawn0.step)⟩
                                · rw [if_neg c41] at H
                                  have c41b0 : (a1.toList == ([73, 110] : List UInt8)) = false := beq_eq_false_iff_ne.mpr c41
                                  have c41b1 : (a1.toList != ([73, 110] : List UInt8)) = true := bne_iff_ne.mpr c41
                                  by_cases c42 : a1.toList = ([79, 112, 101, 110] : List UInt8)
                                  · rw [if_pos c42] at H
                                    have c42b0 : (a1.toList == ([79, 112, 101, 110] : List UInt8)) = true := beq_iff_eq.mpr c42
                                    have c42b1 : (a1.toList != ([79, 112, 101, 110] : List UInt8)) = false := bne_eq_false_iff_eq.mpr c42
                                    clear c42
                                    obtain rfl := Option.some.inj H
                                    go_wp2
                                    go_ret
                                    exact ⟨by first | rfl | (simp; done) | (simp [*]; done), by repeat (first | exact Drawn0.refl _ | apply Drawn0.step)⟩
                                  · rw [if_neg c42] at H
                                    have c42b0 : (a1.toList == ([79, 112, 101, 110] : List UInt8)) = false := beq_eq_false_iff_ne.mpr c42
                                    have c42b1 : (a1.toList != ([79, 112, 101, 110] : List UInt8)) = true := bne_iff_ne.mpr c42
                                    obtain rfl := Option.some.inj H
                                    go_wp2
                                    go_ret
                                    exact ⟨by first | rfl | (simp; done) | (simp [*]; done), by repeat (first | exact Drawn0.refl _ | apply Drawn0.step)⟩

/-! ### spandrelref20_sorts: function 64 -/
def spandrelref20_sorts.l0 : Nat → List (S73) → List Int → Int → Option (ByteArray)
  | 0, _, _, _ => none
  | k + 1, x0, x3, x4 => if x4 < (x0.length : Int) then (if 0 ≤ x4 then (if (rd_T73 x0 x4).f0 = true then (if x3.length < 140737488355328 then (spandrelref20_sorts.l0 k x0 (x3 ++ [115]) (wrap64 (x4 + 1))) else (none)) else (if x3.length < 140737488355328 then (spandrelref20_sorts.l0 k x0 (x3 ++ [110]) (wrap64 (x4 + 1))) else (none))) else (none)) else (some (strOfNums x3))
def spandrelref20_sorts.f (k : Nat) (l0 : List (S73)) : Option (ByteArray) := spandrelref20_sorts.l0 k l0 ([] : List Int) 0
theorem spandrelref20_sorts.mono_l : ∀ k, (∀ y0 y1 y2, LeO (spandrelref20_sorts.l0 k y0 y1 y2) (spandrelref20_sorts.l0 (k + 1) y0 y1 y2))
  | 0 => fun _ _ _ r h => by simp [spandrelref20_sorts.l0] at h
  | k + 1 => by
    have ih0 := spandrelref20_sorts.mono_l k
    · intro y0 y1 y2
      unfold spandrelref20_sorts.l0
      repeat' first
      | (with_reducible exact ih0 _ _ _)
      | (with_reducible exact LeO.refl _)
      | (with_reducible exact LeO.none _)
      | (with_reducible refine LeO.ite ?_ ?_)
      | (with_reducible refine LeO.bind ?_ (fun _ => ?_))
      | exact ih0 _ _ _
      | exact LeO.none _
      | refine LeO.ite ?_ ?_
      | refine LeO.bind ?_ (fun _ => ?_)
theorem spandrelref20_sorts.mono : ∀ a0 k, LeO (spandrelref20_sorts.f k a0) (spandrelref20_sorts.f (k + 1) a0) := by
  intro a0 k
  have ih0 := spandrelref20_sorts.mono_l k
  unfold spandrelref20_sorts.f
  repeat' first
      | (with_reducible exact ih0 _ _ _)
      | (with_reducible exact LeO.refl _)
      | (with_reducible exact LeO.none _)
      | (with_reducible refine LeO.ite ?_ ?_)
      | (with_reducible refine LeO.bind ?_ (fun _ => ?_))
      | exact ih0 _ _ _
      | exact LeO.none _
      | refine LeO.ite ?_ ?_
      | refine LeO.bind ?_ (fun _ => ?_)
set_option maxHeartbeats 8000000 in
set_option maxRecDepth 100000 in
theorem spandrelref20_sorts.calls (k : Nat) (A0 : Option Addr) (c0 : Nat) (l0 : List (S73)) (r : ByteArray) (w : World) (hr0 : Kd.C k73 w A0 l0.length l0) (hc0 : l0.length ≤ c0) (h : spandrelref20_sorts.f k l0 = some r) :
    Calls Try.prog 64 #[.slice A0 l0.length c0] w fun e w' => e = .returned (.string r) ∧ Below w.heap.size w w' := by
  have HR0 := Aside0.mk hr0
  have HC0 := Aside0.mk hc0
  clear hr0 hc0
  have HB := Aside0.mk (Below.refl w.heap.size w)
  have H : (spandrelref20_sorts.l0 k l0 ([] : List Int) 0) = some r := h
  clear h
  have H' := Aside0.mk H
  clear H
  go_enter Try.func64, Try.ntmps64
  go_wp2
  go_loopg [3, 4] k (fun kq v3 v4 w' => ∃ (x3_1 : List Int) (x4_1 : Int), v4 = .int .i64 x4_1 ∧ Aside0 (spandrelref20_sorts.l0 kq l0 x3_1 x4_1 = some r) ∧ Aside0 (kq ≤ k) ∧ Aside0 (Kd.R (Kd.int .u8) 5 w' w.heap.size (fun _ => True) v3 x3_1) ∧ Aside0 (Below w.heap.size w w'))
  case atStart => exact ⟨(([] : List Int)), (0), (by first | rfl | (simp; done) | (simp [*]; done)), H', ⟨Nat.le_refl _⟩, ⟨by first | exact Kd.R_nil _ _ _ _ _ | exact Kd.N_nil _ _ _ _ _ | exact Kd.V_nil _ _ _ _ _ | exact Kd.Q_nil _ _ _ _ _ | exact Kd.S_nil _ _ _ _ _⟩, ⟨by repeat (first | (with_reducible first | exact HB.out | apply below_alloc | apply pw_below_drewN | apply below_drew1) | exact HB.out)⟩⟩
  case round =>
    clear H'
    obtain ⟨x3_1, x4_1, rfl, HA, HK1, HO_3, HB⟩ := hrel
    cases gk with
    | zero => exact absurd HA.out (by simp [spandrelref20_sorts.l0])
    | succ k1 =>
      have H := HA.out
      clear HA
      simp only [spandrelref20_sorts.l0] at H
      by_cases c2 : x4_1 < (l0.length : Int)
      · rw [if_pos c2] at H
        have c2b0 : decide (x4_1 < (l0.length : Int)) = true := decide_eq_true c2
        clear c2
        by_cases c3 : 0 ≤ x4_1
        · rw [if_pos c3] at H
          have c3b0 : decide (0 ≤ x4_1) = true := decide_eq_true c3
          clear c3
          obtain ⟨bq4, hbq4⟩ : ∃ b_ : Bool, b_ = ((rd_T73 l0 x4_1).f0) := ⟨_, rfl⟩
          replace H : (if bq4 = true then (if x3_1.length < 140737488355328 then (spandrelref20_sorts.l0 k1 l0 (x3_1 ++ [115]) (wrap64 (x4_1 + 1))) else (none)) else (if x3_1.length < 140737488355328 then (spandrelref20_sorts.l0 k1 l0 (x3_1 ++ [110]) (wrap64 (x4_1 + 1))) else (none))) = some r := by rw [← hbq4] at H; exact H
          have Nbq4 := Aside0.mk hbq4
          clear hbq4
          by_cases c5 : bq4 = true
          · subst c5
            have H1 : (if x3_1.length < 140737488355328 then (spandrelref20_sorts.l0 k1 l0 (x3_1 ++ [115]) (wrap64 (x4_1 + 1))) else (none)) = some r := by rw [if_pos rfl] at H; exact H
            clear H
            have H := H1
            clear H1
            by_cases c6 : x3_1.length < 140737488355328
            · rw [if_pos c6] at H
              have LMc6 := Aside0.mk c6
              clear c6
              obtain ⟨y184, hy184⟩ : ∃ y_ : List Int, y_ = (x3_1 ++ [115]) := ⟨_, rfl⟩
              replace H : (spandrelref20_sorts.l0 k1 l0 y184 (wrap64 (x4_1 + 1))) = some r := by first | (rw [hy184]; with_reducible exact H) | (have H2_ := (Option.bind_some _ _).symm.trans H; rw [hy184]; with_reducible exact H2_) | (have H2_ := (Option.bind_some _ _).symm.trans H; with_reducible exact H2_) | with_reducible exact H | (rw [hy184]; exact H) | exact H
              have Ny184 := Aside0.mk hy184
              clear hy184
              have H' := Aside0.mk H
              clear H
              have p183 : 0 ≤ (x4_1 : Int) := of_decide_eq_true (by first | (with_reducible assumption) | assumption)
              have q183 : x4_1 < (l0.length : Int) := of_decide_eq_true (by first | (with_reducible assumption) | assumption)
              obtain ⟨ad183, e183, hx183_0, hx183_1, hx183_2⟩ := at_T73 HR0.out x4_1 p183 q183
              (try rw [← Nbq4.out] at hx183_0)
              cases e183
              replace hx183_0 := (HB.out.cell (World.block_lt_of_cell? w _ hx183_0)).trans hx183_0
              replace hx183_1 := (HB.out.cell (World.block_lt_of_cell? w _ hx183_1)).trans hx183_1
              replace hx183_2 := (HB.out.cell (World.block_lt_of_cell? w _ hx183_2)).trans hx183_2
              replace p183 := eq_true p183
              replace q183 := eq_true q183
              go_wp2_with (first | ((with_reducible refine gate_builtin (b := .append) (xs := #[.tmp 16, .tmp 17]) rfl ?_); at_builtin; refine Kd.R_append (Kd.int .u8) (w0 := w) w.heap.size rfl (.tmp 16) (.tmp 17) 135 5 (.int .u8 0) 1 rfl Try.underlying135 info5 rfl (by decide) (by omega) u3 x3_1 115 [.int .u8 115] (fun _ => True) (fun _ => False) rfl rfl ?aP (fun _ hk => hk.elim) ?aF ?aO ?aB ?aS ?aL ?_; (case aP => exact rfl); (case aB => exact (by repeat (first | (with_reducible first | exact HB.out | apply below_alloc | apply pw_below_drewN | apply below_drew1) | exact HB.out))); (case aF => exact (fun _ _ => trivial)); (case aO => exact (by (with_reducible repeat (first | apply Kd.R_alloc | apply Kd.R_drewN | apply Kd.R_drew)); exact HO_3.out)); (case aS => exact (below_size (by repeat (first | (with_reducible first | exact HB.out | apply below_alloc | apply pw_below_drewN | apply below_drew1) | exact HB.out)))); (case aL => have := LMc6.out; omega); intro v185 w7 ho hb hg hat; rw [← Ny184.out] at ho; have n0_ := Aside0.mk (hb); have n1_ := Aside0.mk (ho); clear HB; clear HO_3; have HB := n0_; have HO186 := n1_; clear n0_ n1_; clear ho hb hg hat))
              go_roundg k1
              case measure => have := HK1.out; omega
              case rel => exact ⟨(y184), (wrap64 (x4_1 + 1)), (by first | rfl | (simp; done) | (simp [*]; done)), H', ⟨by have := HK1.out; omega⟩, ⟨by (with_reducible repeat (first | apply Kd.R_alloc | apply Kd.R_drewN | apply Kd.R_drew)); exact HO186.out⟩, ⟨by repeat (first | (with_reducible first | exact HB.out | apply below_alloc | apply pw_below_drewN | apply below_drew1) | exact HB.out)⟩⟩
            · rw [if_neg c6] at H
              exact absurd H (by simp)
          · replace c5 := Bool.eq_false_iff.mpr c5
            subst c5
            have H1 : (if x3_1.length < 140737488355328 then (spandrelref20_sorts.l0 k1 l0 (x3_1 ++ [110]) (wrap64 (x4_1 + 1))) else (none)) = some r := by rw [if_neg (show ¬ (false = true) by decide)] at H; exact H
            clear H
            have H := H1
            clear H1
            by_cases c8 : x3_1.length < 140737488355328
            · rw [if_pos c8] at H
              have LMc8 := Aside0.mk c8
              clear c8
              obtain ⟨y187, hy187⟩ : ∃ y_ : List Int, y_ = (x3_1 ++ [110]) := ⟨_, rfl⟩
              replace H : (spandrelref20_sorts.l0 k1 l0 y187 (wrap64 (x4_1 + 1))) = some r := by first | (rw [hy187]; with_reducible exact H) | (have H2_ := (Option.bind_some _ _).symm.trans H; rw [hy187]; with_reducible exact H2_) | (have H2_ := (Option.bind_some _ _).symm.trans H; with_reducible exact H2_) | with_reducible exact H | (rw [hy187]; exact H) | exact H
              have Ny187 := Aside0.mk hy187
              clear hy187
              have H' := Aside0.mk H
              clear H
              have p183 : 0 ≤ (x4_1 : Int) := of_decide_eq_true (by first | (with_reducible assumption) | assumption)
              have q183 : x4_1 < (l0.length : Int) := of_decide_eq_true (by first | (with_reducible assumption) | assumption)
              obtain ⟨ad183, e183, hx183_0, hx183_1, hx183_2⟩ := at_T73 HR0.out x4_1 p183 q183
              (try rw [← Nbq4.out] at hx183_0)
              cases e183
              replace hx183_0 := (HB.out.cell (World.block_lt_of_cell? w _ hx183_0)).trans hx183_0
              replace hx183_1 := (HB.out.cell (World.block_lt_of_cell? w _ hx183_1)).trans hx183_1
              replace hx183_2 := (HB.out.cell (World.block_lt_of_cell? w _ hx183_2)).trans hx183_2
              replace p183 := eq_true p183
              replace q183 := eq_true q183
              go_wp2_with (first | ((with_reducible refine gate_builtin (b := .append) (xs := #[.tmp 19, .tmp 20]) rfl ?_); at_builtin; refine Kd.R_append (Kd.int .u8) (w0 := w) w.heap.size rfl (.tmp 19) (.tmp 20) 135 5 (.int .u8 0) 1 rfl Try.underlying135 info5 rfl (by decide) (by omega) u3 x3_1 110 [.int .u8 110] (fun _ => True) (fun _ => False) rfl rfl ?aP (fun _ hk => hk.elim) ?aF ?aO ?aB ?aS ?aL ?_; (case aP => exact rfl); (case aB => exact (by repeat (first | (with_reducible first | exact HB.out | apply below_alloc | apply pw_below_drewN | apply below_drew1) | exact HB.out))); (case aF => exact (fun _ _ => trivial)); (case aO => exact (by (with_reducible repeat (first | apply Kd.R_alloc | apply Kd.R_drewN | apply Kd.R_drew)); exact HO_3.out)); (case aS => exact (below_size (by repeat (first | (with_reducible first | exact HB.out | apply below_alloc | apply pw_below_drewN | apply below_drew1) | exact HB.out)))); (case aL => have := LMc8.out; omega); intro v188 w9 ho hb hg hat; rw [← Ny187.out] at ho; have n0_ := Aside0.mk (hb); have n1_ := Aside0.mk (ho); clear HB; clear HO_3; have HB := n0_; have HO189 := n1_; clear n0_ n1_; clear ho hb hg hat))
              go_roundg k1
              case measure => have := HK1.out; omega
              case rel => exact ⟨(y187), (wrap64 (x4_1 + 1)), (by first | rfl | (simp; done) | (simp [*]; done)), H', ⟨by have := HK1.out; omega⟩, ⟨by (with_reducible repeat (first | apply Kd.R_alloc | apply Kd.R_drewN | apply Kd.R_drew)); exact HO189.out⟩, ⟨by repeat (first | (with_reducible first | exact HB.out | apply below_alloc | apply pw_below_drewN | apply below_drew1) | exact HB.out)⟩⟩
            · rw [if_neg c8] at H
              exact absurd H (by simp)
        · rw [if_neg c3] at H
          exact absurd H (by simp)
      · rw [if_neg c2] at H
        have c2b0 : decide (x4_1 < (l0.length : Int)) = false := decide_eq_false c2
        clear c2
        obtain rfl := Option.some.inj H
        have hcv10 := own_string (P := Try.prog) Try.underlying135 Try.underlying5 Try.underlying9 (Kd.own_of_R HO_3.out)
        go_wp2
        go_ret
        exact ⟨by first | rfl | (simp [errW_none, errW_some] <;> rfl) | (simp [*, errW_none, errW_some] <;> rfl), by repeat (first | (with_reducible first | exact HB.out | apply below_alloc | apply pw_below_drewN | apply below_drew1) | exact HB.out)⟩

-- NOT PRINTED: function 37 (spandrelref20_types)

-- NOT PRINTED: function 13 (spandrelref20_Check)

-- NOT PRINTED: function 3 (spandrellaw20_FragcheckChecks)

end Go.Proofs.Ytbjddomocggjmaa.PFragcheckChecks
