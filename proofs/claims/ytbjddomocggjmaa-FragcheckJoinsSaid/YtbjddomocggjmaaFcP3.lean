/- Lines that the kit's printer wrote, mended (wip/mend_print.py): a bool that is asked twice. -/
import Derived.Test.YtbjddomocggjmaaPFragcheckChecksx0
import Derived.Test.YtbjddomocggjmaaPFragcheckChecksx2
namespace Go.Proofs.Ytbjddomocggjmaa.PFragcheckChecks
open Go.RowKit Go.Proofs.YtbjddomocggjmaaW.PrintWords Go.Proofs.YtbjddomocggjmaaW.PrintLast Go.Proofs.YtbjddomocggjmaaW.PrintMore
attribute [local go_sem] max2_int min2_int max_two min_two max_three min_three max_four min_four   -- for this text's walks alone
set_option linter.unusedVariables false
set_option linter.unusedSimpArgs false

/-! ### spandrelref18_Function: function 61 -/
def spandrelref18_Function.f (k : Nat) (a0 : ByteArray) : Option (Bool) := (spandrelref07_Lower.f k a0).bind fun t133 => (if t133 = true then ((spandrelref18_plain.f k a0).bind fun t134 => (if t134 = true then (if a0.toList = ([102, 117, 110, 99] : List UInt8) then (some false) else (if a0.toList = ([105, 102] : List UInt8) then (some false) else (if a0.toList = ([101, 108, 115, 101] : List UInt8) then (some false) else (if a0.toList = ([102, 111, 114] : List UInt8) then (some false) else (some (a0.toList != ([99] : List UInt8))))))) else (some false))) else (some false))
theorem spandrelref18_Function.mono : ∀ a0 k, LeO (spandrelref18_Function.f k a0) (spandrelref18_Function.f (k + 1) a0) := by
  intro a0 k
  unfold spandrelref18_Function.f
  repeat' first
      | (with_reducible exact spandrelref07_Lower.mono _ _)
      | (with_reducible exact spandrelref18_plain.mono _ _)
      | (with_reducible exact LeO.refl _)
      | (with_reducible exact LeO.none _)
      | (with_reducible refine LeO.ite ?_ ?_)
      | (with_reducible refine LeO.bind ?_ (fun _ => ?_))
      | exact spandrelref07_Lower.mono _ _
      | exact spandrelref18_plain.mono _ _
      | exact LeO.none _
      | refine LeO.ite ?_ ?_
      | refine LeO.bind ?_ (fun _ => ?_)
set_option maxHeartbeats 8000000 in
set_option maxRecDepth 100000 in
theorem spandrelref18_Function.calls (k : Nat) (a0 : ByteArray) (r : Bool) (w : World) (h : spandrelref18_Function.f k a0 = some r) :
    Calls Try.prog 61 #[.string a0] w fun e w' => e = .returned (.bool r) ∧ Drawn0 w w' := by
  have H : ((spandrelref07_Lower.f k a0).bind fun t133 => (if t133 = true then ((spandrelref18_plain.f k a0).bind fun t134 => (if t134 = true then (if a0.toList = ([102, 117, 110, 99] : List UInt8) then (some false) else (if a0.toList = ([105, 102] : List UInt8) then (some false) else (if a0.toList = ([101, 108, 115, 101] : List UInt8) then (some false) else (if a0.toList = ([102, 111, 114] : List UInt8) then (some false) else (some (a0.toList != ([99] : List UInt8))))))) else (some false))) else (some false))) = some r := h
  clear h
  replace H := Option.bind_eq_some_iff.mp H
  obtain ⟨t133, A20, H⟩ := H
  replace H : (if t133 = true then ((spandrelref18_plain.f k a0).bind fun t134 => (if t134 = true then (if a0.toList = ([102, 117, 110, 99] : List UInt8) then (some false) else (if a0.toList = ([105, 102] : List UInt8) then (some false) else (if a0.toList = ([101, 108, 115, 101] : List UInt8) then (some false) else (if a0.toList = ([102, 111, 114] : List UInt8) then (some false) else (some (a0.toList != ([99] : List UInt8))))))) else (some false))) else (some false)) = some r := H
  have A2 := Aside0.mk A20
  clear A20
  by_cases c3 : t133 = true
  · subst c3
    have H1 : ((spandrelref18_plain.f k a0).bind fun t134 => (if t134 = true then (if a0.toList = ([102, 117, 110, 99] : List UInt8) then (some false) else (if a0.toList = ([105, 102] : List UInt8) then (some false) else (if a0.toList = ([101, 108, 115, 101] : List UInt8) then (some false) else (if a0.toList = ([102, 111, 114] : List UInt8) then (some false) else (some (a0.toList != ([99] : List UInt8))))))) else (some false))) = some r := by rw [if_pos rfl] at H; exact H
    clear H
    have H := H1
    clear H1
    replace H := Option.bind_eq_some_iff.mp H
    obtain ⟨t134, A40, H⟩ := H
    replace H : (if t134 = true then (if a0.toList = ([102, 117, 110, 99] : List UInt8) then (some false) else (if a0.toList = ([105, 102] : List UInt8) then (some false) else (if a0.toList = ([101, 108, 115, 101] : List UInt8) then (some false) else (if a0.toList = ([102, 111, 114] : List UInt8) then (some false) else (some (a0.toList != ([99] : List UInt8))))))) else (some false)) = some r := H
    have A4 := Aside0.mk A40
    clear A40
    by_cases c5 : t134 = true
    · subst c5
      have H1 : (if a0.toList = ([102, 117, 110, 99] : List UInt8) then (some false) else (if a0.toList = ([105, 102] : List UInt8) then (some false) else (if a0.toList = ([101, 108, 115, 101] : List UInt8) then (some false) else (if a0.toList = ([102, 111, 114] : List UInt8) then (some false) else (some (a0.toList != ([99] : List UInt8))))))) = some r := by rw [if_pos rfl] at H; exact H
      clear H
      have H := H1
      clear H1
      by_cases c6 : a0.toList = ([102, 117, 110, 99] : List UInt8)
      · rw [if_pos c6] at H
        have c6b0 : (a0.toList == ([102, 117, 110, 99] : List UInt8)) = true := beq_iff_eq.mpr c6
        have c6b1 : (a0.toList != ([102, 117, 110, 99] : List UInt8)) = false := bne_eq_false_iff_eq.mpr c6
        clear c6
        obtain rfl := Option.some.inj H
        go_enter Try.func61, Try.ntmps61
        go_wp2_with (first | ((with_reducible refine gate_callee (f := 99) rfl ?_); refine goesL_ (some 4) rfl rfl Try.func99 (by kernel_rfl) rfl #[.string a0] rfl (by (try simp only [List.map_toArray, List.map_cons, List.map_nil]); first | done | rfl | (simp only [List.length_drop, List.length_take]; rfl)) ?_; (with_reducible refine (spandrelref07_Lower.calls k a0 true _ A2.out).mono ?_); rintro e w' ⟨rfl, ⟨nd, rfl⟩⟩; refine ⟨_, rfl, ?_⟩) | (go_at_call 100; (with_reducible refine (spandrelref18_plain.calls k a0 true _ A4.out).mono ?_); rintro e w' ⟨rfl, ⟨nd, rfl⟩⟩))
        go_ret
        exact ⟨by first | rfl | (simp; done) | (simp [*]; done), by repeat (first | exact Drawn0.refl _ | apply Drawn0.step)⟩
      · rw [if_neg c6] at H
        have c6b0 : (a0.toList == ([102, 117, 110, 99] : List UInt8)) = false := beq_eq_false_iff_ne.mpr c6
        have c6b1 : (a0.toList != ([102, 117, 110, 99] : List UInt8)) = true := bne_iff_ne.mpr c6
        by_cases c7 : a0.toList = ([105, 102] : List UInt8)
        · rw [if_pos c7] at H
          have c7b0 : (a0.toList == ([105, 102] : List UInt8)) = true := beq_iff_eq.mpr c7
          have c7b1 : (a0.toList != ([105, 102] : List UInt8)) = false := bne_eq_false_iff_eq.mpr c7
          clear c7
          obtain rfl := Option.some.inj H
          go_enter Try.func61, Try.ntmps61
          go_wp2_with (first | ((with_reducible refine gate_callee (f := 99) rfl ?_); refine goesL_ (some 4) rfl rfl Try.func99 (by kernel_rfl) rfl #[.string a0] rfl (by (try simp only [List.map_toArray, List.map_cons, List.map_nil]); first | done | rfl | (simp only [List.length_drop, List.length_take]; rfl)) ?_; (with_reducible refine (spandrelref07_Lower.calls k a0 true _ A2.out).mono ?_); rintro e w' ⟨rfl, ⟨nd, rfl⟩⟩; refine ⟨_, rfl, ?_⟩) | (go_at_call 100; (with_reducible refine (spandrelref18_plain.calls k a0 true _ A4.out).mono ?_); rintro e w' ⟨rfl, ⟨nd, rfl⟩⟩))
          go_ret
          exact ⟨by first | rfl | (simp; done) | (simp [*]; done), by repeat (first | exact Drawn0.refl _ | apply Drawn0.step)⟩
        · rw [if_neg c7] at H
          have c7b0 : (a0.toList == ([105, 102] : List UInt8)) = false := beq_eq_false_iff_ne.mpr c7
          have c7b1 : (a0.toList != ([105, 102] : List UInt8)) = true := bne_iff_ne.mpr c7
          by_cases c8 : a0.toList = ([101, 108, 115, 101] : List UInt8)
          · rw [if_pos c8] at H
            have c8b0 : (a0.toList == ([101, 108, 115, 101] : List UInt8)) = true := beq_iff_eq.mpr c8
            have c8b1 : (a0.toList != ([101, 108, 115, 101] : List UInt8)) = false := bne_eq_false_iff_eq.mpr c8
            clear c8
            obtain rfl := Option.some.inj H
            go_enter Try.func61, Try.ntmps61
            go_wp2_with (first | ((with_reducible refine gate_callee (f := 99) rfl ?_); refine goesL_ (some 4) rfl rfl Try.func99 (by kernel_rfl) rfl #[.string a0] rfl (by (try simp only [List.map_toArray, List.map_cons, List.map_nil]); first | done | rfl | (simp only [List.length_drop, List.length_take]; rfl)) ?_; (with_reducible refine (spandrelref07_Lower.calls k a0 true _ A2.out).mono ?_); rintro e w' ⟨rfl, ⟨nd, rfl⟩⟩; refine ⟨_, rfl, ?_⟩) | (go_at_call 100; (with_reducible refine (spandrelref18_plain.calls k a0 true _ A4.out).mono ?_); rintro e w' ⟨rfl, ⟨nd, rfl⟩⟩))
            go_ret
            exact ⟨by first | rfl | (simp; done) | (simp [*]; done), by repeat (first | exact Drawn0.refl _ | apply Drawn0.step)⟩
          · rw [if_neg c8] at H
            have c8b0 : (a0.toList == ([101, 108, 115, 101] : List UInt8)) = false := beq_eq_false_iff_ne.mpr c8
            have c8b1 : (a0.toList != ([101, 108, 115, 101] : List UInt8)) = true := bne_iff_ne.mpr c8
            by_cases c9 : a0.toList = ([102, 111, 114] : List UInt8)
            · rw [if_pos c9] at H
              have c9b0 : (a0.toList == ([102, 111, 114] : List UInt8)) = true := beq_iff_eq.mpr c9
              have c9b1 : (a0.toList != ([102, 111, 114] : List UInt8)) = false := bne_eq_false_iff_eq.mpr c9
              clear c9
              obtain rfl := Option.some.inj H
              go_enter Try.func61, Try.ntmps61
              go_wp2_with (first | ((with_reducible refine gate_callee (f := 99) rfl ?_); refine goesL_ (some 4) rfl rfl Try.func99 (by kernel_rfl) rfl #[.string a0] rfl (by (try simp only [List.map_toArray, List.map_cons, List.map_nil]); first | done | rfl | (simp only [List.length_drop, List.length_take]; rfl)) ?_; (with_reducible refine (spandrelref07_Lower.calls k a0 true _ A2.out).mono ?_); rintro e w' ⟨rfl, ⟨nd, rfl⟩⟩; refine ⟨_, rfl, ?_⟩) | (go_at_call 100; (with_reducible refine (spandrelref18_plain.calls k a0 true _ A4.out).mono ?_); rintro e w' ⟨rfl, ⟨nd, rfl⟩⟩))
              go_ret
              exact ⟨by first | rfl | (simp; done) | (simp [*]; done), by repeat (first | exact Drawn0.refl _ | apply Drawn0.step)⟩
            · rw [if_neg c9] at H
              have c9b0 : (a0.toList == ([102, 111, 114] : List UInt8)) = false := beq_eq_false_iff_ne.mpr c9
              have c9b1 : (a0.toList != ([102, 111, 114] : List UInt8)) = true := bne_iff_ne.mpr c9
              obtain rfl := Option.some.inj H
              go_enter Try.func61, Try.ntmps61
              go_wp2_with (first | ((with_reducible refine gate_callee (f := 99) rfl ?_); refine goesL_ (some 4) rfl rfl Try.func99 (by kernel_rfl) rfl #[.string a0] rfl (by (try simp only [List.map_toArray, List.map_cons, List.map_nil]); first | done | rfl | (simp only [List.length_drop, List.length_take]; rfl)) ?_; (with_reducible refine (spandrelref07_Lower.calls k a0 true _ A2.out).mono ?_); rintro e w' ⟨rfl, ⟨nd, rfl⟩⟩; refine ⟨_, rfl, ?_⟩) | (go_at_call 100; (with_reducible refine (spandrelref18_plain.calls k a0 true _ A4.out).mono ?_); rintro e w' ⟨rfl, ⟨nd, rfl⟩⟩))
              go_ret
              exact ⟨by first | rfl | (simp; done) | (simp [*]; done), by repeat (first | exact Drawn0.refl _ | apply Drawn0.step)⟩
    · replace c5 := Bool.eq_false_iff.mpr c5
      subst c5
      have H1 : (some false) = some r := by rw [if_neg (show ¬ (false = true) by decide)] at H; exact H
      clear H
      have H := H1
      clear H1
      obtain rfl := Option.some.inj H
      go_enter Try.func61, Try.ntmps61
      go_wp2_with (first | ((with_reducible refine gate_callee (f := 99) rfl ?_); refine goesL_ (some 4) rfl rfl Try.func99 (by kernel_rfl) rfl #[.string a0] rfl (by (try simp only [List.map_toArray, List.map_cons, List.map_nil]); first | done | rfl | (simp only [List.length_drop, List.length_take]; rfl)) ?_; (with_reducible refine (spandrelref07_Lower.calls k a0 true _ A2.out).mono ?_); rintro e w' ⟨rfl, ⟨nd, rfl⟩⟩; refine ⟨_, rfl, ?_⟩) | (go_at_call 100; (with_reducible refine (spandrelref18_plain.calls k a0 false _ A4.out).mono ?_); rintro e w' ⟨rfl, ⟨nd, rfl⟩⟩))
      go_ret
      exact ⟨by first | rfl | (simp; done) | (simp [*]; done), by repeat (first | exact Drawn0.refl _ | apply Drawn0.step)⟩
  · replace c3 := Bool.eq_false_iff.mpr c3
    subst c3
    have H1 : (some false) = some r := by rw [if_neg (show ¬ (false = true) by decide)] at H; exact H
    clear H
    have H := H1
    clear H1
    obtain rfl := Option.some.inj H
    go_enter Try.func61, Try.ntmps61
    go_wp2_with (first | ((with_reducible refine gate_callee (f := 99) rfl ?_); refine goesL_ (some 4) rfl rfl Try.func99 (by kernel_rfl) rfl #[.string a0] rfl (by (try simp only [List.map_toArray, List.map_cons, List.map_nil]); first | done | rfl | (simp only [List.length_drop, List.length_take]; rfl)) ?_; (with_reducible refine (spandrelref07_Lower.calls k a0 false _ A2.out).mono ?_); rintro e w' ⟨rfl, ⟨nd, rfl⟩⟩; refine ⟨_, rfl, ?_⟩))
    go_ret
    exact ⟨by first | rfl | (simp; done) | (simp [*]; done), by repeat (first | exact Drawn0.refl _ | apply Drawn0.step)⟩

/-! ### spandrelref07_Upper: function 55 -/
def spandrelref07_Upper.f (k : Nat) (a0 : ByteArray) : Option (Bool) := if (a0.size : Int) > 0 then ((spandrelref07_Word.f k a0).bind fun t135 => (if t135 = (a0.size : Int) then (if 0 < (a0.size : Int) then (some (decide ((bt a0 0) < 97))) else (none)) else (some false))) else (some false)
theorem spandrelref07_Upper.mono : ∀ a0 k, LeO (spandrelref07_Upper.f k a0) (spandrelref07_Upper.f (k + 1) a0) := by
  intro a0 k
  unfold spandrelref07_Upper.f
  repeat' first
      | (with_reducible exact spandrelref07_Word.mono _ _)
      | (with_reducible exact LeO.refl _)
      | (with_reducible exact LeO.none _)
      | (with_reducible refine LeO.ite ?_ ?_)
      | (with_reducible refine LeO.bind ?_ (fun _ => ?_))
      | exact spandrelref07_Word.mono _ _
      | exact LeO.none _
      | refine LeO.ite ?_ ?_
      | refine LeO.bind ?_ (fun _ => ?_)
set_option maxHeartbeats 8000000 in
set_option maxRecDepth 100000 in
theorem spandrelref07_Upper.calls (k : Nat) (a0 : ByteArray) (r : Bool) (w : World) (h : spandrelref07_Upper.f k a0 = some r) :
    Calls Try.prog 55 #[.string a0] w fun e w' => e = .returned (.bool r) ∧ Drawn0 w w' := by
  have H : (if (a0.size : Int) > 0 then ((spandrelref07_Word.f k a0).bind fun t135 => (if t135 = (a0.size : Int) then (if 0 < (a0.size : Int) then (some (decide ((bt a0 0) < 97))) else (none)) else (some false))) else (some false)) = some r := h
  clear h
  by_cases c2 : (a0.size : Int) > 0
  · rw [if_pos c2] at H
    have c2b0 : decide (0 < (a0.size : Int)) = true := decide_eq_true c2
    have c2b1 : decide (0 < a0.size) = true := decide_eq_true (by omega)
    clear c2
    replace H := Option.bind_eq_some_iff.mp H
    obtain ⟨t135, A30, H⟩ := H
    replace H : (if t135 = (a0.size : Int) then (if 0 < (a0.size : Int) then (some (decide ((bt a0 0) < 97))) else (none)) else (some false)) = some r := H
    have A3 := Aside0.mk A30
    clear A30
    by_cases c4 : t135 = (a0.size : Int)
    · rw [if_pos c4] at H
      have c4b0 : (t135 == (a0.size : Int)) = true := beq_iff_eq.mpr c4
      have c4b1 : (t135 != (a0.size : Int)) = false := bne_eq_false_iff_eq.mpr c4
      clear c4
      by_cases c5 : 0 < (a0.size : Int)
      · rw [if_pos c5] at H
        have c5b0 : decide (0 < (a0.size : Int)) = true := decide_eq_true c5
        have c5b1 : decide (0 < a0.size) = true := decide_eq_true (by omega)
        clear c5
        obtain rfl := Option.some.inj H
        go_enter Try.func55, Try.ntmps55
        go_wp2_with (first | (go_at_call 97; (with_reducible refine (spandrelref07_Word.calls k a0 t135 _ A3.out).mono ?_); rintro e w' ⟨rfl, ⟨nd, rfl⟩⟩; have p6 : 0 ≤ (0 : Int) := (by omega); have q6 : 0 < a0.size := (by have : (0 : Int) < (a0.size : Int) := of_decide_eq_true (by first | (with_reducible assumption) | assumption); omega); have hx6 : ∀ h : 0 < a0.size, ((a0[0]'h).toNat : Int) = bt a0 0 := bt_at a0 0; clear p6; have qi6 : (0 < (a0.size : Int)) = True := eq_true (of_decide_eq_true (by first | (with_reducible assumption) | assumption)); replace q6 := eq_true q6))
        go_ret
        exact ⟨by first | rfl | (simp; done) | (simp [*]; done), by repeat (first | exact Drawn0.refl _ | apply Drawn0.step)⟩
      · rw [if_neg c5] at H
        exact absurd H (by simp)
    · rw [if_neg c4] at H
      have c4b0 : (t135 == (a0.size : Int)) = false := beq_eq_false_iff_ne.mpr c4
      have c4b1 : (t135 != (a0.size : Int)) = true := bne_iff_ne.mpr c4
      obtain rfl := Option.some.inj H
      go_enter Try.func55, Try.ntmps55
      go_wp2_with (first | (go_at_call 97; (with_reducible refine (spandrelref07_Word.calls k a0 t135 _ A3.out).mono ?_); rintro e w' ⟨rfl, ⟨nd, rfl⟩⟩))
      go_ret
      exact ⟨by first | rfl | (simp; done) | (simp [*]; done), by repeat (first | exact Drawn0.refl _ | apply Drawn0.step)⟩
  · rw [if_neg c2] at H
    have c2b0 : decide (0 < (a0.size : Int)) = false := decide_eq_false c2
    have c2b1 : decide (0 < a0.size) = false := decide_eq_false (by omega)
    clear c2
    obtain rfl := Option.some.inj H
    go_enter Try.func55, Try.ntmps55
    go_wp2
    go_ret
    exact ⟨by first | rfl | (simp; done) | (simp [*]; done), by repeat (first | exact Drawn0.refl _ | apply Drawn0.step)⟩

/-! ### spandrelref18_Method: function 101 -/
def spandrelref18_Method.f (k : Nat) (a0 : ByteArray) : Option (Bool) := (spandrelref07_Upper.f k a0).bind fun t136 => (if t136 = true then ((spandrelref18_plain.f k a0).bind fun t137 => (some t137)) else (some false))
theorem spandrelref18_Method.mono : ∀ a0 k, LeO (spandrelref18_Method.f k a0) (spandrelref18_Method.f (k + 1) a0) := by
  intro a0 k
  unfold spandrelref18_Method.f
  repeat' first
      | (with_reducible exact spandrelref07_Upper.mono _ _)
      | (with_reducible exact spandrelref18_plain.mono _ _)
      | (with_reducible exact LeO.refl _)
      | (with_reducible exact LeO.none _)
      | (with_reducible refine LeO.ite ?_ ?_)
      | (with_reducible refine LeO.bind ?_ (fun _ => ?_))
      | exact spandrelref07_Upper.mono _ _
      | exact spandrelref18_plain.mono _ _
      | exact LeO.none _
      | refine LeO.ite ?_ ?_
      | refine LeO.bind ?_ (fun _ => ?_)
set_option maxHeartbeats 8000000 in
set_option maxRecDepth 100000 in
theorem spandrelref18_Method.calls (k : Nat) (a0 : ByteArray) (r : Bool) (w : World) (h : spandrelref18_Method.f k a0 = some r) :
    Calls Try.prog 101 #[.string a0] w fun e w' => e = .returned (.bool r) ∧ Drawn0 w w' := by
  have H : ((spandrelref07_Upper.f k a0).bind fun t136 => (if t136 = true then ((spandrelref18_plain.f k a0).bind fun t137 => (some t137)) else (some false))) = some r := h
  clear h
  replace H := Option.bind_eq_some_iff.mp H
  obtain ⟨t136, A20, H⟩ := H
  replace H : (if t136 = true then ((spandrelref18_plain.f k a0).bind fun t137 => (some t137)) else (some false)) = some r := H
  have A2 := Aside0.mk A20
  clear A20
  by_cases c3 : t136 = true
  · subst c3
    have H1 : ((spandrelref18_plain.f k a0).bind fun t137 => (some t137)) = some r := by rw [if_pos rfl] at H; exact H
    clear H
    have H := H1
    clear H1
    replace H := Option.bind_eq_some_iff.mp H
    obtain ⟨t137, A40, H⟩ := H
    replace H : (some t137) = some r := H
    have A4 := Aside0.mk A40
    clear A40
    obtain rfl := Option.some.inj H
    go_enter Try.func101, Try.ntmps101
    go_wp2_with (first | ((with_reducible refine gate_callee (f := 55) rfl ?_); refine goesL_ (some 4) rfl rfl Try.func55 (by kernel_rfl) rfl #[.string a0] rfl (by (try simp only [List.map_toArray, List.map_cons, List.map_nil]); first | done | rfl | (simp only [List.length_drop, List.length_take]; rfl)) ?_; (with_reducible refine (spandrelref07_Upper.calls k a0 true _ A2.out).mono ?_); rintro e w' ⟨rfl, ⟨nd, rfl⟩⟩; refine ⟨_, rfl, ?_⟩) | (go_at_call 100; (with_reducible refine (spandrelref18_plain.calls k a0 t137 _ A4.out).mono ?_); rintro e w' ⟨rfl, ⟨nd, rfl⟩⟩))
    go_ret
    exact ⟨by first | rfl | (simp; done) | (simp [*]; done), by repeat (first | exact Drawn0.refl _ | apply Drawn0.step)⟩
  · replace c3 := Bool.eq_false_iff.mpr c3
    subst c3
    have H1 : (some false) = some r := by rw [if_neg (show ¬ (false = true) by decide)] at H; exact H
    clear H
    have H := H1
    clear H1
    obtain rfl := Option.some.inj H
    go_enter Try.func101, Try.ntmps101
    go_wp2_with (first | ((with_reducible refine gate_callee (f := 55) rfl ?_); refine goesL_ (some 4) rfl rfl Try.func55 (by kernel_rfl) rfl #[.string a0] rfl (by (try simp only [List.map_toArray, List.map_cons, List.map_nil]); first | done | rfl | (simp only [List.length_drop, List.length_take]; rfl)) ?_; (with_reducible refine (spandrelref07_Upper.calls k a0 false _ A2.out).mono ?_); rintro e w' ⟨rfl, ⟨nd, rfl⟩⟩; refine ⟨_, rfl, ?_⟩))
    go_ret
    exact ⟨by first | rfl | (simp; done) | (simp [*]; done), by repeat (first | exact Drawn0.refl _ | apply Drawn0.step)⟩

/-! ### spandrelref18_args: function 102 -/
def spandrelref18_args.l0 : Nat → List (S73) → Int → Option (Bool)
  | 0, _, _ => none
  | k + 1, x0, x3 => if x3 < (x0.length : Int) then (if 0 ≤ x3 then (if (rd_T73 x0 x3).f0 = true then (if ((rd_T73 x0 x3).f1) = 0 then (if ((rd_T73 x0 x3).f0 = true) then (spandrelref18_args.l0 k x0 (wrap64 (x3 + 1))) else (if ((rd_T73 x0 x3).f2).toList = ([] : List UInt8) then (if ((rd_T73 x0 x3).f1) = (-9223372036854775808) then (some false) else (spandrelref18_args.l0 k x0 (wrap64 (x3 + 1)))) else (some false))) else (some false)) else (if ((rd_T73 x0 x3).f0 = true) then (spandrelref18_args.l0 k x0 (wrap64 (x3 + 1))) else (if ((rd_T73 x0 x3).f2).toList = ([] : List UInt8) then (if ((rd_T73 x0 x3).f1) = (-9223372036854775808) then (some false) else (spandrelref18_args.l0 k x0 (wrap64 (x3 + 1)))) else (some false)))) else (none)) else (some (decide ((x0.length : Int) ≤ 4096)))
def spandrelref18_args.f (k : Nat) (l0 : List (S73)) : Option (Bool) := spandrelref18_args.l0 k l0 0
theorem spandrelref18_args.mono_l : ∀ k, (∀ y0 y1, LeO (spandrelref18_args.l0 k y0 y1) (spandrelref18_args.l0 (k + 1) y0 y1))
  | 0 => fun _ _ r h => by simp [spandrelref18_args.l0] at h
  | k + 1 => by
    have ih0 := spandrelref18_args.mono_l k
    · intro y0 y1
      unfold spandrelref18_args.l0
      repeat' first
      | (with_reducible exact ih0 _ _)
      | (with_reducible exact LeO.refl _)
      | (with_reducible exact LeO.none _)
      | (with_reducible refine LeO.ite ?_ ?_)
      | (with_reducible refine LeO.bind ?_ (fun _ => ?_))
      | exact ih0 _ _
      | exact LeO.none _
      | refine LeO.ite ?_ ?_
      | refine LeO.bind ?_ (fun _ => ?_)
theorem spandrelref18_args.mono : ∀ a0 k, LeO (spandrelref18_args.f k a0) (spandrelref18_args.f (k + 1) a0) := by
  intro a0 k
  have ih0 := spandrelref18_args.mono_l k
  unfold spandrelref18_args.f
  repeat' first
      | (with_reducible exact ih0 _ _)
      | (with_reducible exact LeO.refl _)
      | (with_reducible exact LeO.none _)
      | (with_reducible refine LeO.ite ?_ ?_)
      | (with_reducible refine LeO.bind ?_ (fun _ => ?_))
      | exact ih0 _ _
      | exact LeO.none _
      | refine LeO.ite ?_ ?_
      | refine LeO.bind ?_ (fun _ => ?_)
set_option maxHeartbeats 8000000 in
set_option maxRecDepth 100000 in
theorem spandrelref18_args.calls (k : Nat) (A0 : Option Addr) (c0 : Nat) (l0 : List (S73)) (r : Bool) (w : World) (hr0 : Kd.C k73 w A0 l0.length l0) (hc0 : l0.length ≤ c0) (h : spandrelref18_args.f k l0 = some r) :
    Calls Try.prog 102 #[.slice A0 l0.length c0] w fun e w' => e = .returned (.bool r) ∧ Drawn0 w w' := by
  have HR0 := Aside0.mk hr0
  have HC0 := Aside0.mk hc0
  clear hr0 hc0
  have H : (spandrelref18_args.l0 k l0 0) = some r := h
  clear h
  have H' := Aside0.mk H
  clear H
  go_enter Try.func102, Try.ntmps102
  go_wp2
  go_loopg [3] k (fun kq v3 w' => ∃ (x3_1 : Int), v3 = .int .i64 x3_1 ∧ Aside0 (spandrelref18_args.l0 kq l0 x3_1 = some r) ∧ Aside0 (kq ≤ k) ∧ Drawn0 w w')
  case atStart => exact ⟨(0), (by first | rfl | (simp; done) | (simp [*]; done)), H', ⟨Nat.le_refl _⟩, by repeat (first | exact Drawn0.refl _ | apply Drawn0.step)⟩
  case round =>
    clear H'
    try clear c1
    obtain ⟨x3_1, rfl, HA, HK1, ⟨m1, rfl⟩⟩ := hrel
    cases gk with
    | zero => exact absurd HA.out (by simp [spandrelref18_args.l0])
    | succ k1 =>
      have H := HA.out
      clear HA
      simp only [spandrelref18_args.l0] at H
      by_cases c2 : x3_1 < (l0.length : Int)
      · rw [if_pos c2] at H
        have c2b0 : decide (x3_1 < (l0.length : Int)) = true := decide_eq_true c2
        clear c2
        by_cases c3 : 0 ≤ x3_1
        · rw [if_pos c3] at H
          have c3b0 : decide (0 ≤ x3_1) = true := decide_eq_true c3
          clear c3
          obtain ⟨bq4, hbq4⟩ : ∃ b_ : Bool, b_ = ((rd_T73 l0 x3_1).f0) := ⟨_, rfl⟩
          replace H : (if bq4 = true then (if ((rd_T73 l0 x3_1).f1) = 0 then (if (bq4 = true) then (spandrelref18_args.l0 k1 l0 (wrap64 (x3_1 + 1))) else (if ((rd_T73 l0 x3_1).f2).toList = ([] : List UInt8) then (if ((rd_T73 l0 x3_1).f1) = (-9223372036854775808) then (some false) else (spandrelref18_args.l0 k1 l0 (wrap64 (x3_1 + 1)))) else (some false))) else (some false)) else (if (bq4 = true) then (spandrelref18_args.l0 k1 l0 (wrap64 (x3_1 + 1))) else (if ((rd_T73 l0 x3_1).f2).toList = ([] : List UInt8) then (if ((rd_T73 l0 x3_1).f1) = (-9223372036854775808) then (some false) else (spandrelref18_args.l0 k1 l0 (wrap64 (x3_1 + 1)))) else (some false)))) = some r := by rw [← hbq4] at H; exact H
          have Nbq4 := Aside0.mk hbq4
          clear hbq4
          by_cases c5 : bq4 = true
          · subst c5
            have H1 : (if ((rd_T73 l0 x3_1).f1) = 0 then (if (true = true) then (spandrelref18_args.l0 k1 l0 (wrap64 (x3_1 + 1))) else (if ((rd_T73 l0 x3_1).f2).toList = ([] : List UInt8) then (if ((rd_T73 l0 x3_1).f1) = (-9223372036854775808) then (some false) else (spandrelref18_args.l0 k1 l0 (wrap64 (x3_1 + 1)))) else (some false))) else (some false)) = some r := by rw [if_pos rfl] at H; exact H
            clear H
            have H := H1
            clear H1
            by_cases c6 : ((rd_T73 l0 x3_1).f1) = 0
            · rw [if_pos c6] at H
              have c6b0 : (((rd_T73 l0 x3_1).f1) == 0) = true := beq_iff_eq.mpr c6
              have c6b1 : (((rd_T73 l0 x3_1).f1) != 0) = false := bne_eq_false_iff_eq.mpr c6
              clear c6
              by_cases c7 : (true = true)
              · clear c7
                have H1 : (spandrelref18_args.l0 k1 l0 (wrap64 (x3_1 + 1))) = some r := by rw [if_pos rfl] at H; exact H
                clear H
                have H := H1
                clear H1
                have H' := Aside0.mk H
                clear H
                have p138 : 0 ≤ (x3_1 : Int) := of_decide_eq_true (by first | (with_reducible assumption) | assumption)
                have q138 : x3_1 < (l0.length : Int) := of_decide_eq_true (by first | (with_reducible assumption) | assumption)
                obtain ⟨ad138, e138, hx138_0, hx138_1, hx138_2⟩ := at_T73 HR0.out x3_1 p138 q138
                (try rw [← Nbq4.out] at hx138_0)
                cases e138
                replace p138 := eq_true p138
                replace q138 := eq_true q138
                have p139 : 0 ≤ (x3_1 : Int) := of_decide_eq_true (by first | (with_reducible assumption) | assumption)
                have q139 : x3_1 < (l0.length : Int) := of_decide_eq_true (by first | (with_reducible assumption) | assumption)
                obtain ⟨ad139, e139, hx139_0, hx139_1, hx139_2⟩ := at_T73 HR0.out x3_1 p139 q139
                (try rw [← Nbq4.out] at hx139_0)
                obtain rfl : ad138 = ad139 := (by injection e139)
                replace p139 := eq_true p139
                replace q139 := eq_true q139
                have p140 : 0 ≤ (x3_1 : Int) := of_decide_eq_true (by first | (with_reducible assumption) | assumption)
                have q140 : x3_1 < (l0.length : Int) := of_decide_eq_true (by first | (with_reducible assumption) | assumption)
                obtain ⟨ad140, e140, hx140_0, hx140_1, hx140_2⟩ := at_T73 HR0.out x3_1 p140 q140
                (try rw [← Nbq4.out] at hx140_0)
                obtain rfl : ad138 = ad140 := (by injection e140)
                replace p140 := eq_true p140
                replace q140 := eq_true q140
                go_wp2
                go_roundg k1
                case measure => have := HK1.out; omega
                case rel => exact ⟨(wrap64 (x3_1 + 1)), (by first | rfl | (simp; done) | (simp [*]; done)), H', ⟨by have := HK1.out; omega⟩, by repeat (first | exact Drawn0.refl _ | apply Drawn0.step)⟩
              · exact absurd rfl c7
            · rw [if_neg c6] at H
              have c6b0 : (((rd_T73 l0 x3_1).f1) == 0) = false := beq_eq_false_iff_ne.mpr c6
              have c6b1 : (((rd_T73 l0 x3_1).f1) != 0) = true := bne_iff_ne.mpr c6
              obtain rfl := Option.some.inj H
              have p138 : 0 ≤ (x3_1 : Int) := of_decide_eq_true (by first | (with_reducible assumption) | assumption)
              have q138 : x3_1 < (l0.length : Int) := of_decide_eq_true (by first | (with_reducible assumption) | assumption)
              obtain ⟨ad138, e138, hx138_0, hx138_1, hx138_2⟩ := at_T73 HR0.out x3_1 p138 q138
              (try rw [← Nbq4.out] at hx138_0)
              cases e138
              replace p138 := eq_true p138
              replace q138 := eq_true q138
              have p139 : 0 ≤ (x3_1 : Int) := of_decide_eq_true (by first | (with_reducible assumption) | assumption)
              have q139 : x3_1 < (l0.length : Int) := of_decide_eq_true (by first | (with_reducible assumption) | assumption)
              obtain ⟨ad139, e139, hx139_0, hx139_1, hx139_2⟩ := at_T73 HR0.out x3_1 p139 q139
              (try rw [← Nbq4.out] at hx139_0)
              obtain rfl : ad138 = ad139 := (by injection e139)
              replace p139 := eq_true p139
              replace q139 := eq_true q139
              go_wp2
              go_ret
              exact ⟨by first | rfl | (simp; done) | (simp [*]; done), by repeat (first | exact Drawn0.refl _ | apply Drawn0.step)⟩
          · replace c5 := Bool.eq_false_iff.mpr c5
            subst c5
            have H1 : (if (false = true) then (spandrelref18_args.l0 k1 l0 (wrap64 (x3_1 + 1))) else (if ((rd_T73 l0 x3_1).f2).toList = ([] : List UInt8) then (if ((rd_T73 l0 x3_1).f1) = (-9223372036854775808) then (some false) else (spandrelref18_args.l0 k1 l0 (wrap64 (x3_1 + 1)))) else (some false))) = some r := by rw [if_neg (show ¬ (false = true) by decide)] at H; exact H
            clear H
            have H := H1
            clear H1
            by_cases c10 : (false = true)
            · cases c10
            · clear c10
              have H1 : (if ((rd_T73 l0 x3_1).f2).toList = ([] : List UInt8) then (if ((rd_T73 l0 x3_1).f1) = (-9223372036854775808) then (some false) else (spandrelref18_args.l0 k1 l0 (wrap64 (x3_1 + 1)))) else (some false)) = some r := by rw [if_neg (show ¬ (false = true) by decide)] at H; exact H
              clear H
              have H := H1
              clear H1
              by_cases c11 : ((rd_T73 l0 x3_1).f2).toList = ([] : List UInt8)
              · rw [if_pos c11] at H
                have c11b0 : (((rd_T73 l0 x3_1).f2).toList == ([] : List UInt8)) = true := beq_iff_eq.mpr c11
                have c11b1 : (((rd_T73 l0 x3_1).f2).toList != ([] : List UInt8)) = false := bne_eq_false_iff_eq.mpr c11
                clear c11
                by_cases c12 : ((rd_T73 l0 x3_1).f1) = (-9223372036854775808)
                · rw [if_pos c12] at H
                  have c12b0 : (((rd_T73 l0 x3_1).f1) == (-9223372036854775808)) = true := beq_iff_eq.mpr c12
                  have c12b1 : (((rd_T73 l0 x3_1).f1) != (-9223372036854775808)) = false := bne_eq_false_iff_eq.mpr c12
                  clear c12
                  obtain rfl := Option.some.inj H
                  have p138 : 0 ≤ (x3_1 : Int) := of_decide_eq_true (by first | (with_reducible assumption) | assumption)
                  have q138 : x3_1 < (l0.length : Int) := of_decide_eq_true (by first | (with_reducible assumption) | assumption)
                  obtain ⟨ad138, e138, hx138_0, hx138_1, hx138_2⟩ := at_T73 HR0.out x3_1 p138 q138
                  (try rw [← Nbq4.out] at hx138_0)
                  cases e138
                  replace p138 := eq_true p138
                  replace q138 := eq_true q138
                  have p143 : 0 ≤ (x3_1 : Int) := of_decide_eq_true (by first | (with_reducible assumption) | assumption)
                  have q143 : x3_1 < (l0.length : Int) := of_decide_eq_true (by first | (with_reducible assumption) | assumption)
                  obtain ⟨ad143, e143, hx143_0, hx143_1, hx143_2⟩ := at_T73 HR0.out x3_1 p143 q143
                  (try rw [← Nbq4.out] at hx143_0)
                  obtain rfl : ad138 = ad143 := (by injection e143)
                  replace p143 := eq_true p143
                  replace q143 := eq_true q143
                  have p144 : 0 ≤ (x3_1 : Int) := of_decide_eq_true (by first | (with_reducible assumption) | assumption)
                  have q144 : x3_1 < (l0.length : Int) := of_decide_eq_true (by first | (with_reducible assumption) | assumption)
                  obtain ⟨ad144, e144, hx144_0, hx144_1, hx144_2⟩ := at_T73 HR0.out x3_1 p144 q144
                  (try rw [← Nbq4.out] at hx144_0)
                  obtain rfl : ad138 = ad144 := (by injection e144)
                  replace p144 := eq_true p144
                  replace q144 := eq_true q144
                  have p145 : 0 ≤ (x3_1 : Int) := of_decide_eq_true (by first | (with_reducible assumption) | assumption)
                  have q145 : x3_1 < (l0.length : Int) := of_decide_eq_true (by first | (with_reducible assumption) | assumption)
                  obtain ⟨ad145, e145, hx145_0, hx145_1, hx145_2⟩ := at_T73 HR0.out x3_1 p145 q145
                  (try rw [← Nbq4.out] at hx145_0)
                  obtain rfl : ad138 = ad145 := (by injection e145)
                  replace p145 := eq_true p145
                  replace q145 := eq_true q145
                  go_wp2
                  go_ret
                  exact ⟨by first | rfl | (simp; done) | (simp [*]; done), by repeat (first | exact Drawn0.refl _ | apply Drawn0.step)⟩
                · rw [if_neg c12] at H
                  have c12b0 : (((rd_T73 l0 x3_1).f1) == (-9223372036854775808)) = false := beq_eq_false_iff_ne.mpr c12
                  have c12b1 : (((rd_T73 l0 x3_1).f1) != (-9223372036854775808)) = true := bne_iff_ne.mpr c12
                  have H' := Aside0.mk H
                  clear H
                  have p138 : 0 ≤ (x3_1 : Int) := of_decide_eq_true (by first | (with_reducible assumption) | assumption)
                  have q138 : x3_1 < (l0.length : Int) := of_decide_eq_true (by first | (with_reducible assumption) | assumption)
                  obtain ⟨ad138, e138, hx138_0, hx138_1, hx138_2⟩ := at_T73 HR0.out x3_1 p138 q138
                  (try rw [← Nbq4.out] at hx138_0)
                  cases e138
                  replace p138 := eq_true p138
                  replace q138 := eq_true q138
                  have p143 : 0 ≤ (x3_1 : Int) := of_decide_eq_true (by first | (with_reducible assumption) | assumption)
                  have q143 : x3_1 < (l0.length : Int) := of_decide_eq_true (by first | (with_reducible assumption) | assumption)
                  obtain ⟨ad143, e143, hx143_0, hx143_1, hx143_2⟩ := at_T73 HR0.out x3_1 p143 q143
                  (try rw [← Nbq4.out] at hx143_0)
                  obtain rfl : ad138 = ad143 := (by injection e143)
                  replace p143 := eq_true p143
                  replace q143 := eq_true q143
                  have p144 : 0 ≤ (x3_1 : Int) := of_decide_eq_true (by first | (with_reducible assumption) | assumption)
                  have q144 : x3_1 < (l0.length : Int) := of_decide_eq_true (by first | (with_reducible assumption) | assumption)
                  obtain ⟨ad144, e144, hx144_0, hx144_1, hx144_2⟩ := at_T73 HR0.out x3_1 p144 q144
                  (try rw [← Nbq4.out] at hx144_0)
                  obtain rfl : ad138 = ad144 := (by injection e144)
                  replace p144 := eq_true p144
                  replace q144 := eq_true q144
                  have p145 : 0 ≤ (x3_1 : Int) := of_decide_eq_true (by first | (with_reducible assumption) | assumption)
                  have q145 : x3_1 < (l0.length : Int) := of_decide_eq_true (by first | (with_reducible assumption) | assumption)
                  obtain ⟨ad145, e145, hx145_0, hx145_1, hx145_2⟩ := at_T73 HR0.out x3_1 p145 q145
                  (try rw [← Nbq4.out] at hx145_0)
                  obtain rfl : ad138 = ad145 := (by injection e145)
                  replace p145 := eq_true p145
                  replace q145 := eq_true q145
                  go_wp2
                  go_roundg k1
                  case measure => have := HK1.out; omega
                  case rel => exact ⟨(wrap64 (x3_1 + 1)), (by first | rfl | (simp; done) | (simp [*]; done)), H', ⟨by have := HK1.out; omega⟩, by repeat (first | exact Drawn0.refl _ | apply Drawn0.step)⟩
              · rw [if_neg c11] at H
                have c11b0 : (((rd_T73 l0 x3_1).f2).toList == ([] : List UInt8)) = false := beq_eq_false_iff_ne.mpr c11
                have c11b1 : (((rd_T73 l0 x3_1).f2).toList != ([] : List UInt8)) = true := bne_iff_ne.mpr c11
                obtain rfl := Option.some.inj H
                have p138 : 0 ≤ (x3_1 : Int) := of_decide_eq_true (by first | (with_reducible assumption) | assumption)
                have q138 : x3_1 < (l0.length : Int) := of_decide_eq_true (by first | (with_reducible assumption) | assumption)
                obtain ⟨ad138, e138, hx138_0, hx138_1, hx138_2⟩ := at_T73 HR0.out x3_1 p138 q138
                (try rw [← Nbq4.out] at hx138_0)
                cases e138
                replace p138 := eq_true p138
                replace q138 := eq_true q138
                have p143 : 0 ≤ (x3_1 : Int) := of_decide_eq_true (by first | (with_reducible assumption) | assumption)
                have q143 : x3_1 < (l0.length : Int) := of_decide_eq_true (by first | (with_reducible assumption) | assumption)
                obtain ⟨ad143, e143, hx143_0, hx143_1, hx143_2⟩ := at_T73 HR0.out x3_1 p143 q143
                (try rw [← Nbq4.out] at hx143_0)
                obtain rfl : ad138 = ad143 := (by injection e143)
                replace p143 := eq_true p143
                replace q143 := eq_true q143
                have p144 : 0 ≤ (x3_1 : Int) := of_decide_eq_true (by first | (with_reducible assumption) | assumption)
                have q144 : x3_1 < (l0.length : Int) := of_decide_eq_true (by first | (with_reducible assumption) | assumption)
                obtain ⟨ad144, e144, hx144_0, hx144_1, hx144_2⟩ := at_T73 HR0.out x3_1 p144 q144
                (try rw [← Nbq4.out] at hx144_0)
                obtain rfl : ad138 = ad144 := (by injection e144)
                replace p144 := eq_true p144
                replace q144 := eq_true q144
                go_wp2
                go_ret
                exact ⟨by first | rfl | (simp; done) | (simp [*]; done), by repeat (first | exact Drawn0.refl _ | apply Drawn0.step)⟩
        · rw [if_neg c3] at H
          exact absurd H (by simp)
      · rw [if_neg c2] at H
        have c2b0 : decide (x3_1 < (l0.length : Int)) = false := decide_eq_false c2
        clear c2
        obtain rfl := Option.some.inj H
        go_wp2
        go_ret
        exact ⟨by first | rfl | (simp; done) | (simp [*]; done), by repeat (first | exact Drawn0.refl _ | apply Drawn0.step)⟩

end Go.Proofs.Ytbjddomocggjmaa.PFragcheckChecks
