/- Lines that the kit's printer wrote, mended (wip/mend_print.py): a bool that is asked twice. -/
import Derived.Test.YtbjddomocggjmaaPFragcheckChecksx0
import Derived.Test.YtbjddomocggjmaaPFragcheckChecksx1
import Derived.Test.YtbjddomocggjmaaFcP3
import Derived.Test.YtbjddomocggjmaaFcP4
namespace Go.Proofs.Ytbjddomocggjmaa.PFragcheckChecks
open Go.RowKit Go.Proofs.YtbjddomocggjmaaW.PrintWords Go.Proofs.YtbjddomocggjmaaW.PrintLast Go.Proofs.YtbjddomocggjmaaW.PrintMore
attribute [local go_sem] max2_int min2_int max_two min_two max_three min_three max_four min_four   -- for this text's walks alone
set_option linter.unusedVariables false
set_option linter.unusedSimpArgs false

/-! ### spandrelref18_Shaped: function 35 -/
def spandrelref18_Shaped.l0 : Nat → List (S34) → Int → Option (Bool)
  | 0, _, _ => none
  | k + 1, x0, x3 => if x3 < (x0.length : Int) then (if 0 ≤ x3 then ((spandrelref18_Function.f k ((rd_T34 x0 x3).f0)).bind fun t164 => (if t164 = true then ((spandrelref18_body.f k ((rd_T34 x0 x3).f1) 1).bind fun t166 => (if t166 = true then (spandrelref18_Shaped.l0 k x0 (wrap64 (x3 + 1))) else (some false))) else (some false))) else (none)) else (some (decide ((x0.length : Int) ≤ 4096)))
def spandrelref18_Shaped.f (k : Nat) (l0 : List (S34)) : Option (Bool) := spandrelref18_Shaped.l0 k l0 0
theorem spandrelref18_Shaped.mono_l : ∀ k, (∀ y0 y1, LeO (spandrelref18_Shaped.l0 k y0 y1) (spandrelref18_Shaped.l0 (k + 1) y0 y1))
  | 0 => fun _ _ r h => by simp [spandrelref18_Shaped.l0] at h
  | k + 1 => by
    have ih0 := spandrelref18_Shaped.mono_l k
    · intro y0 y1
      unfold spandrelref18_Shaped.l0
      repeat' first
      | (with_reducible exact ih0 _ _)
      | (with_reducible exact spandrelref18_Function.mono _ _)
      | (with_reducible exact spandrelref18_body.mono _ _ _)
      | (with_reducible exact LeO.refl _)
      | (with_reducible exact LeO.none _)
      | (with_reducible refine LeO.ite ?_ ?_)
      | (with_reducible refine LeO.bind ?_ (fun _ => ?_))
      | exact ih0 _ _
      | exact spandrelref18_Function.mono _ _
      | exact spandrelref18_body.mono _ _ _
      | exact LeO.none _
      | refine LeO.ite ?_ ?_
      | refine LeO.bind ?_ (fun _ => ?_)
theorem spandrelref18_Shaped.mono : ∀ a0 k, LeO (spandrelref18_Shaped.f k a0) (spandrelref18_Shaped.f (k + 1) a0) := by
  intro a0 k
  have ih0 := spandrelref18_Shaped.mono_l k
  unfold spandrelref18_Shaped.f
  repeat' first
      | (with_reducible exact ih0 _ _)
      | (with_reducible exact spandrelref18_Function.mono _ _)
      | (with_reducible exact spandrelref18_body.mono _ _ _)
      | (with_reducible exact LeO.refl _)
      | (with_reducible exact LeO.none _)
      | (with_reducible refine LeO.ite ?_ ?_)
      | (with_reducible refine LeO.bind ?_ (fun _ => ?_))
      | exact ih0 _ _
      | exact spandrelref18_Function.mono _ _
      | exact spandrelref18_body.mono _ _ _
      | exact LeO.none _
      | refine LeO.ite ?_ ?_
      | refine LeO.bind ?_ (fun _ => ?_)
set_option maxHeartbeats 8000000 in
set_option maxRecDepth 100000 in
theorem spandrelref18_Shaped.calls (k : Nat) (A0 : Option Addr) (c0 : Nat) (l0 : List (S34)) (r : Bool) (w : World) (hr0 : Kd.C k34 w A0 l0.length l0) (hc0 : l0.length ≤ c0) (h : spandrelref18_Shaped.f k l0 = some r) :
    Calls Try.prog 35 #[.slice A0 l0.length c0] w fun e w' => e = .returned (.bool r) ∧ Below w.heap.size w w' := by
  have HR0 := Aside0.mk hr0
  have HC0 := Aside0.mk hc0
  clear hr0 hc0
  have HB := Aside0.mk (Below.refl w.heap.size w)
  have H : (spandrelref18_Shaped.l0 k l0 0) = some r := h
  clear h
  have H' := Aside0.mk H
  clear H
  go_enter Try.func35, Try.ntmps35
  go_wp2
  go_loopg [3] k (fun kq v3 w' => ∃ (x3_1 : Int), v3 = .int .i64 x3_1 ∧ Aside0 (spandrelref18_Shaped.l0 kq l0 x3_1 = some r) ∧ Aside0 (kq ≤ k) ∧ Aside0 (Below w.heap.size w w'))
  case atStart => exact ⟨(0), (by first | rfl | (simp; done) | (simp [*]; done)), H', ⟨Nat.le_refl _⟩, ⟨by repeat (first | (with_reducible first | exact HB.out | apply below_alloc | apply pw_below_drewN | apply below_drew1) | exact HB.out)⟩⟩
  case round =>
    clear H'
    obtain ⟨x3_1, rfl, HA, HK1, HB⟩ := hrel
    cases gk with
    | zero => exact absurd HA.out (by simp [spandrelref18_Shaped.l0])
    | succ k1 =>
      have H := HA.out
      clear HA
      simp only [spandrelref18_Shaped.l0] at H
      by_cases c2 : x3_1 < (l0.length : Int)
      · rw [if_pos c2] at H
        have c2b0 : decide (x3_1 < (l0.length : Int)) = true := decide_eq_true c2
        clear c2
        by_cases c3 : 0 ≤ x3_1
        · rw [if_pos c3] at H
          have c3b0 : decide (0 ≤ x3_1) = true := decide_eq_true c3
          clear c3
          replace H := Option.bind_eq_some_iff.mp H
          obtain ⟨t164, A40, H⟩ := H
          replace H : (if t164 = true then ((spandrelref18_body.f k1 ((rd_T34 l0 x3_1).f1) 1).bind fun t166 => (if t166 = true then (spandrelref18_Shaped.l0 k1 l0 (wrap64 (x3_1 + 1))) else (some false))) else (some false)) = some r := H
          have A4 := Aside0.mk A40
          clear A40
          by_cases c5 : t164 = true
          · subst c5
            have H1 : ((spandrelref18_body.f k1 ((rd_T34 l0 x3_1).f1) 1).bind fun t166 => (if t166 = true then (spandrelref18_Shaped.l0 k1 l0 (wrap64 (x3_1 + 1))) else (some false))) = some r := by rw [if_pos rfl] at H; exact H
            clear H
            have H := H1
            clear H1
            replace H := Option.bind_eq_some_iff.mp H
            obtain ⟨t166, A60, H⟩ := H
            replace H : (if t166 = true then (spandrelref18_Shaped.l0 k1 l0 (wrap64 (x3_1 + 1))) else (some false)) = some r := H
            have A6 := Aside0.mk A60
            clear A60
            by_cases c7 : t166 = true
            · subst c7
              have H1 : (spandrelref18_Shaped.l0 k1 l0 (wrap64 (x3_1 + 1))) = some r := by rw [if_pos rfl] at H; exact H
              clear H
              have H := H1
              clear H1
              have H' := Aside0.mk H
              clear H
              have p163 : 0 ≤ (x3_1 : Int) := of_decide_eq_true (by first | (with_reducible assumption) | assumption)
              have q163 : x3_1 < (l0.length : Int) := of_decide_eq_true (by first | (with_reducible assumption) | assumption)
              obtain ⟨ad163, A163_1, c163_1, e163, hx163_0, hx163_1, hl163_1, hi163_1⟩ := at_T34 HR0.out x3_1 p163 q163
              cases e163
              replace hx163_0 := (HB.out.cell (World.block_lt_of_cell? w _ hx163_0)).trans hx163_0
              replace hx163_1 := (HB.out.cell (World.block_lt_of_cell? w _ hx163_1)).trans hx163_1
              have HR163_1 := Aside0.mk hi163_1
              have HC163_1 := Aside0.mk hl163_1
              clear hi163_1 hl163_1
              replace p163 := eq_true p163
              replace q163 := eq_true q163
              go_wp2_with (first | ((with_reducible refine gate_callee (f := 61) rfl ?_); refine goesL_ (some 15) rfl rfl Try.func61 (by kernel_rfl) rfl #[.string ((rd_T34 l0 x3_1).f0)] rfl (by (try simp only [List.map_toArray, List.map_cons, List.map_nil]); first | done | rfl | (simp only [List.length_drop, List.length_take]; rfl)) ?_; (with_reducible refine (spandrelref18_Function.calls k1 ((rd_T34 l0 x3_1).f0) true _ A4.out).mono ?_); rintro e w' ⟨rfl, ⟨nd, rfl⟩⟩; refine ⟨_, rfl, ?_⟩; have p165 : 0 ≤ (x3_1 : Int) := of_decide_eq_true (by first | (with_reducible assumption) | assumption); have q165 : x3_1 < (l0.length : Int) := of_decide_eq_true (by first | (with_reducible assumption) | assumption); obtain ⟨ad165, A165_1, c165_1, e165, hx165_0, hx165_1, hl165_1, hi165_1⟩ := at_T34 HR0.out x3_1 p165 q165; obtain rfl : ad163 = ad165 := (by injection e165); replace hx165_0 := (HB.out.cell (World.block_lt_of_cell? w _ hx165_0)).trans hx165_0; replace hx165_1 := (HB.out.cell (World.block_lt_of_cell? w _ hx165_1)).trans hx165_1; have HR165_1 := Aside0.mk hi165_1; have HC165_1 := Aside0.mk hl165_1; clear hi165_1 hl165_1; replace p165 := eq_true p165; replace q165 := eq_true q165; have ea_ := Option.some.inj (hx163_1.symm.trans hx165_1); injection ea_ with ea_ en_ ec_; subst ea_; subst ec_; clear en_) | (go_at_call 62; (with_reducible refine (spandrelref18_body.calls k1 _ _ ((rd_T34 l0 x3_1).f1) 1 true _ ?side1 ?side2 A6.out).mono ?_); (case side1 => repeat (first | exact (Kd.C_below HR165_1.out (by repeat (first | (with_reducible first | exact HB.out | apply below_alloc | apply pw_below_drewN | apply below_drew1) | exact HB.out))) | (with_reducible refine Kd.C_alloc ?_ _) | (with_reducible refine Kd.C_drewN ?_ _) | (with_reducible refine Kd.C_drew ?_))); (case side2 => exact HC165_1.out); rintro e w8 ⟨rfl, hb⟩; have n0_ := Aside0.mk (below_step (by repeat (first | (with_reducible first | exact HB.out | apply below_alloc | apply pw_below_drewN | apply below_drew1) | exact HB.out)) hb); clear HB; have HB := n0_; clear n0_; (try clear hb); (try clear hb2); (try clear hk); (try clear hi)))
              go_roundg k1
              case measure => have := HK1.out; omega
              case rel => exact ⟨(wrap64 (x3_1 + 1)), (by first | rfl | (simp; done) | (simp [*]; done)), H', ⟨by have := HK1.out; omega⟩, ⟨by repeat (first | (with_reducible first | exact HB.out | apply below_alloc | apply pw_below_drewN | apply below_drew1) | exact HB.out)⟩⟩
            · replace c7 := Bool.eq_false_iff.mpr c7
              subst c7
              have H1 : (some false) = some r := by rw [if_neg (show ¬ (false = true) by decide)] at H; exact H
              clear H
              have H := H1
              clear H1
              obtain rfl := Option.some.inj H
              have p163 : 0 ≤ (x3_1 : Int) := of_decide_eq_true (by first | (with_reducible assumption) | assumption)
              have q163 : x3_1 < (l0.length : Int) := of_decide_eq_true (by first | (with_reducible assumption) | assumption)
              obtain ⟨ad163, A163_1, c163_1, e163, hx163_0, hx163_1, hl163_1, hi163_1⟩ := at_T34 HR0.out x3_1 p163 q163
              cases e163
              replace hx163_0 := (HB.out.cell (World.block_lt_of_cell? w _ hx163_0)).trans hx163_0
              replace hx163_1 := (HB.out.cell (World.block_lt_of_cell? w _ hx163_1)).trans hx163_1
              have HR163_1 := Aside0.mk hi163_1
              have HC163_1 := Aside0.mk hl163_1
              clear hi163_1 hl163_1
              replace p163 := eq_true p163
              replace q163 := eq_true q163
              go_wp2_with (first | ((with_reducible refine gate_callee (f := 61) rfl ?_); refine goesL_ (some 15) rfl rfl Try.func61 (by kernel_rfl) rfl #[.string ((rd_T34 l0 x3_1).f0)] rfl (by (try simp only [List.map_toArray, List.map_cons, List.map_nil]); first | done | rfl | (simp only [List.length_drop, List.length_take]; rfl)) ?_; (with_reducible refine (spandrelref18_Function.calls k1 ((rd_T34 l0 x3_1).f0) true _ A4.out).mono ?_); rintro e w' ⟨rfl, ⟨nd, rfl⟩⟩; refine ⟨_, rfl, ?_⟩; have p165 : 0 ≤ (x3_1 : Int) := of_decide_eq_true (by first | (with_reducible assumption) | assumption); have q165 : x3_1 < (l0.length : Int) := of_decide_eq_true (by first | (with_reducible assumption) | assumption); obtain ⟨ad165, A165_1, c165_1, e165, hx165_0, hx165_1, hl165_1, hi165_1⟩ := at_T34 HR0.out x3_1 p165 q165; obtain rfl : ad163 = ad165 := (by injection e165); replace hx165_0 := (HB.out.cell (World.block_lt_of_cell? w _ hx165_0)).trans hx165_0; replace hx165_1 := (HB.out.cell (World.block_lt_of_cell? w _ hx165_1)).trans hx165_1; have HR165_1 := Aside0.mk hi165_1; have HC165_1 := Aside0.mk hl165_1; clear hi165_1 hl165_1; replace p165 := eq_true p165; replace q165 := eq_true q165; have ea_ := Option.some.inj (hx163_1.symm.trans hx165_1); injection ea_ with ea_ en_ ec_; subst ea_; subst ec_; clear en_) | (go_at_call 62; (with_reducible refine (spandrelref18_body.calls k1 _ _ ((rd_T34 l0 x3_1).f1) 1 false _ ?side1 ?side2 A6.out).mono ?_); (case side1 => repeat (first | exact (Kd.C_below HR165_1.out (by repeat (first | (with_reducible first | exact HB.out | apply below_alloc | apply pw_below_drewN | apply below_drew1) | exact HB.out))) | (with_reducible refine Kd.C_alloc ?_ _) | (with_reducible refine Kd.C_drewN ?_ _) | (with_reducible refine Kd.C_drew ?_))); (case side2 => exact HC165_1.out); rintro e w9 ⟨rfl, hb⟩; have n0_ := Aside0.mk (below_step (by repeat (first | (with_reducible first | exact HB.out | apply below_alloc | apply pw_below_drewN | apply below_drew1) | exact HB.out)) hb); clear HB; have HB := n0_; clear n0_; (try clear hb); (try clear hb2); (try clear hk); (try clear hi)))
              go_ret
              exact ⟨by first | rfl | (simp [errW_none, errW_some] <;> rfl) | (simp [*, errW_none, errW_some] <;> rfl), by repeat (first | (with_reducible first | exact HB.out | apply below_alloc | apply pw_below_drewN | apply below_drew1) | exact HB.out)⟩
          · replace c5 := Bool.eq_false_iff.mpr c5
            subst c5
            have H1 : (some false) = some r := by rw [if_neg (show ¬ (false = true) by decide)] at H; exact H
            clear H
            have H := H1
            clear H1
            obtain rfl := Option.some.inj H
            have p163 : 0 ≤ (x3_1 : Int) := of_decide_eq_true (by first | (with_reducible assumption) | assumption)
            have q163 : x3_1 < (l0.length : Int) := of_decide_eq_true (by first | (with_reducible assumption) | assumption)
            obtain ⟨ad163, A163_1, c163_1, e163, hx163_0, hx163_1, hl163_1, hi163_1⟩ := at_T34 HR0.out x3_1 p163 q163
            cases e163
            replace hx163_0 := (HB.out.cell (World.block_lt_of_cell? w _ hx163_0)).trans hx163_0
            replace hx163_1 := (HB.out.cell (World.block_lt_of_cell? w _ hx163_1)).trans hx163_1
            have HR163_1 := Aside0.mk hi163_1
            have HC163_1 := Aside0.mk hl163_1
            clear hi163_1 hl163_1
            replace p163 := eq_true p163
            replace q163 := eq_true q163
            go_wp2_with (first | ((with_reducible refine gate_callee (f := 61) rfl ?_); refine goesL_ (some 15) rfl rfl Try.func61 (by kernel_rfl) rfl #[.string ((rd_T34 l0 x3_1).f0)] rfl (by (try simp only [List.map_toArray, List.map_cons, List.map_nil]); first | done | rfl | (simp only [List.length_drop, List.length_take]; rfl)) ?_; (with_reducible refine (spandrelref18_Function.calls k1 ((rd_T34 l0 x3_1).f0) false _ A4.out).mono ?_); rintro e w' ⟨rfl, ⟨nd, rfl⟩⟩; refine ⟨_, rfl, ?_⟩))
            go_ret
            exact ⟨by first | rfl | (simp [errW_none, errW_some] <;> rfl) | (simp [*, errW_none, errW_some] <;> rfl), by repeat (first | (with_reducible first | exact HB.out | apply below_alloc | apply pw_below_drewN | apply below_drew1) | exact HB.out)⟩
        · rw [if_neg c3] at H
          exact absurd H (by simp)
      · rw [if_neg c2] at H
        have c2b0 : decide (x3_1 < (l0.length : Int)) = false := decide_eq_false c2
        clear c2
        obtain rfl := Option.some.inj H
        go_wp2
        go_ret
        exact ⟨by first | rfl | (simp [errW_none, errW_some] <;> rfl) | (simp [*, errW_none, errW_some] <;> rfl), by repeat (first | (with_reducible first | exact HB.out | apply below_alloc | apply pw_below_drewN | apply below_drew1) | exact HB.out)⟩

/-! ### spandrelref20_names: function 36 -/
mutual
def spandrelref20_names.l0 : Nat → List (S34) → List (S32) → Int → Option (Bool)
  | 0, _, _, _ => none
  | k + 1, x0, x1, x5 => if x5 < (x1.length : Int) then (if 0 ≤ x5 then (if ((rd_T32 x1 x5).f0) = 2 then ((spandrelref20_Find.f k x0 ((rd_T32 x1 x5).f1)).bind fun t169 => (if t169 < 0 then (some false) else ((spandrelref20_names.f k x0 ((rd_T32 x1 x5).f3)).bind fun t171 => (if t171 = true then ((spandrelref20_names.f k x0 ((rd_T32 x1 x5).f4)).bind fun t173 => (if t173 = true then (spandrelref20_names.l0 k x0 x1 (wrap64 (x5 + 1))) else (some false))) else (some false))))) else ((spandrelref20_names.f k x0 ((rd_T32 x1 x5).f3)).bind fun t175 => (if t175 = true then ((spandrelref20_names.f k x0 ((rd_T32 x1 x5).f4)).bind fun t177 => (if t177 = true then (spandrelref20_names.l0 k x0 x1 (wrap64 (x5 + 1))) else (some false))) else (some false)))) else (none)) else (some true)
def spandrelref20_names.f : Nat → List (S34) → List (S32) → Option (Bool)
  | 0, _, _ => none
  | k + 1, l0, l1 => spandrelref20_names.l0 k l0 l1 0
end
theorem spandrelref20_names.mono_l : ∀ k, (∀ y0 y1, LeO (spandrelref20_names.f k y0 y1) (spandrelref20_names.f (k + 1) y0 y1)) ∧ (∀ y0 y1 y2, LeO (spandrelref20_names.l0 k y0 y1 y2) (spandrelref20_names.l0 (k + 1) y0 y1 y2))
  | 0 => ⟨fun _ _ r h => by simp [spandrelref20_names.f] at h, fun _ _ _ r h => by simp [spandrelref20_names.l0] at h⟩
  | k + 1 => by
    obtain ⟨ih0, ih1⟩ := spandrelref20_names.mono_l k
    refine ⟨?_, ?_⟩
    · intro y0 y1
      unfold spandrelref20_names.f
      repeat' first
      | (with_reducible exact ih0 _ _)
      | (with_reducible exact ih1 _ _ _)
      | (with_reducible exact spandrelref20_Find.mono _ _ _)
      | (with_reducible exact LeO.refl _)
      | (with_reducible exact LeO.none _)
      | (with_reducible refine LeO.ite ?_ ?_)
      | (with_reducible refine LeO.bind ?_ (fun _ => ?_))
      | exact ih0 _ _
      | exact ih1 _ _ _
      | exact spandrelref20_Find.mono _ _ _
      | exact LeO.none _
      | refine LeO.ite ?_ ?_
      | refine LeO.bind ?_ (fun _ => ?_)
    · intro y0 y1 y2
      unfold spandrelref20_names.l0
      repeat' first
      | (with_reducible exact ih0 _ _)
      | (with_reducible exact ih1 _ _ _)
      | (with_reducible exact spandrelref20_Find.mono _ _ _)
      | (with_reducible exact LeO.refl _)
      | (with_reducible exact LeO.none _)
      | (with_reducible refine LeO.ite ?_ ?_)
      | (with_reducible refine LeO.bind ?_ (fun _ => ?_))
      | exact ih0 _ _
      | exact ih1 _ _ _
      | exact spandrelref20_Find.mono _ _ _
      | exact LeO.none _
      | refine LeO.ite ?_ ?_
      | refine LeO.bind ?_ (fun _ => ?_)
theorem spandrelref20_names.mono : ∀ a0 a1 k, LeO (spandrelref20_names.f k a0 a1) (spandrelref20_names.f (k + 1) a0 a1) := by
  intro a0 a1 k
  obtain ⟨ih0, ih1⟩ := spandrelref20_names.mono_l k
  exact ih0 a0 a1
set_option maxHeartbeats 8000000 in
set_option maxRecDepth 100000 in
theorem spandrelref20_names.calls (k : Nat) : ∀ (A0 : Option Addr) (c0 : Nat) (l0 : List (S34)) (A1 : Option Addr) (c1 : Nat) (l1 : List (S32)) (r : Bool) (w : World) (hr0 : Kd.C k34 w A0 l0.length l0) (hc0 : l0.length ≤ c0) (hr1 : Kd.C k32 w A1 l1.length l1) (hc1 : l1.length ≤ c1) (h : spandrelref20_names.f k l0 l1 = some r),
    Calls Try.prog 36 #[.slice A0 l0.length c0, .slice A1 l1.length c1] w fun e w' => e = .returned (.bool r) ∧ Drawn0 w w' := by
  induction k using Nat.strongRecOn with
  | _ k ih =>
  intro A0 c0 l0 A1 c1 l1 r w hr0 hc0 hr1 hc1 h
  cases k with
  | zero => exact absurd h (by simp [spandrelref20_names.f])
  | succ k =>
  simp only [spandrelref20_names.f] at h
  have HR0 := Aside0.mk hr0
  have HC0 := Aside0.mk hc0
  clear hr0 hc0
  have HR1 := Aside0.mk hr1
  have HC1 := Aside0.mk hc1
  clear hr1 hc1
  have H : (spandrelref20_names.l0 k l0 l1 0) = some r := h
  clear h
  have H' := Aside0.mk H
  clear H
  go_enter Try.func36, Try.ntmps36
  go_wp2
  go_loopg [5] k (fun kq v5 w' => ∃ (x5_1 : Int), v5 = .int .i64 x5_1 ∧ Aside0 (spandrelref20_names.l0 kq l0 l1 x5_1 = some r) ∧ Aside0 (kq ≤ k) ∧ Drawn0 w w')
  case atStart => exact ⟨(0), (by first | rfl | (simp; done) | (simp [*]; done)), H', ⟨Nat.le_refl _⟩, by repeat (first | exact Drawn0.refl _ | apply Drawn0.step)⟩
  case round =>
    clear H'
    try clear c1
    try clear p2
    obtain ⟨x5_1, rfl, HA, HK1, ⟨m1, rfl⟩⟩ := hrel
    cases gk with
    | zero => exact absurd HA.out (by simp [spandrelref20_names.l0])
    | succ k1 =>
      have H := HA.out
      clear HA
      simp only [spandrelref20_names.l0] at H
      by_cases c3 : x5_1 < (l1.length : Int)
      · rw [if_pos c3] at H
        have c3b0 : decide (x5_1 < (l1.length : Int)) = true := decide_eq_true c3
        clear c3
        by_cases c4 : 0 ≤ x5_1
        · rw [if_pos c4] at H
          have c4b0 : decide (0 ≤ x5_1) = true := decide_eq_true c4
          clear c4
          by_cases c5 : ((rd_T32 l1 x5_1).f0) = 2
          · rw [if_pos c5] at H
            have c5b0 : (((rd_T32 l1 x5_1).f0) == 2) = true := beq_iff_eq.mpr c5
            have c5b1 : (((rd_T32 l1 x5_1).f0) != 2) = false := bne_eq_false_iff_eq.mpr c5
            clear c5
            replace H := Option.bind_eq_some_iff.mp H
            obtain ⟨t169, A60, H⟩ := H
            replace H : (if t169 < 0 then (some false) else ((spandrelref20_names.f k1 l0 ((rd_T32 l1 x5_1).f3)).bind fun t171 => (if t171 = true then ((spandrelref20_names.f k1 l0 ((rd_T32 l1 x5_1).f4)).bind fun t173 => (if t173 = true then (spandrelref20_names.l0 k1 l0 l1 (wrap64 (x5_1 + 1))) else (some false))) else (some false)))) = some r := H
            have A6 := Aside0.mk A60
            clear A60
            by_cases c7 : t169 < 0
            · rw [if_pos c7] at H
              have c7b0 : decide (t169 < 0) = true := decide_eq_true c7
              clear c7
              obtain rfl := Option.some.inj H
              have p167 : 0 ≤ (x5_1 : Int) := of_decide_eq_true (by first | (with_reducible assumption) | assumption)
              have q167 : x5_1 < (l1.length : Int) := of_decide_eq_true (by first | (with_reducible assumption) | assumption)
              obtain ⟨ad167, A167_2, c167_2, A167_3, c167_3, A167_4, c167_4, e167, hx167_0, hx167_1, hx167_2, hx167_3, hx167_4, hl167_2, hi167_2, hl167_3, hi167_3, hl167_4, hi167_4⟩ := at_T32 HR1.out x5_1 p167 q167
              cases e167
              have HR167_2 := Aside0.mk hi167_2
              have HC167_2 := Aside0.mk hl167_2
              clear hi167_2 hl167_2
              have HR167_3 := Aside0.mk hi167_3
              have HC167_3 := Aside0.mk hl167_3
              clear hi167_3 hl167_3
              have HR167_4 := Aside0.mk hi167_4
              have HC167_4 := Aside0.mk hl167_4
              clear hi167_4 hl167_4
              replace p167 := eq_true p167
              replace q167 := eq_true q167
              have p168 : 0 ≤ (x5_1 : Int) := of_decide_eq_true (by first | (with_reducible assumption) | assumption)
              have q168 : x5_1 < (l1.length : Int) := of_decide_eq_true (by first | (with_reducible assumption) | assumption)
              obtain ⟨ad168, A168_2, c168_2, A168_3, c168_3, A168_4, c168_4, e168, hx168_0, hx168_1, hx168_2, hx168_3, hx168_4, hl168_2, hi168_2, hl168_3, hi168_3, hl168_4, hi168_4⟩ := at_T32 HR1.out x5_1 p168 q168
              obtain rfl : ad167 = ad168 := (by injection e168)
              have HR168_2 := Aside0.mk hi168_2
              have HC168_2 := Aside0.mk hl168_2
              clear hi168_2 hl168_2
              have HR168_3 := Aside0.mk hi168_3
              have HC168_3 := Aside0.mk hl168_3
              clear hi168_3 hl168_3
              have HR168_4 := Aside0.mk hi168_4
              have HC168_4 := Aside0.mk hl168_4
              clear hi168_4 hl168_4
              replace p168 := eq_true p168
              replace q168 := eq_true q168
              have ea_ := Option.some.inj (hx167_2.symm.trans hx168_2)
              injection ea_ with ea_ en_ ec_
              subst ea_
              subst ec_
              clear en_
              have ea_ := Option.some.inj (hx167_3.symm.trans hx168_3)
              injection ea_ with ea_ en_ ec_
              subst ea_
              subst ec_
              clear en_
              have ea_ := Option.some.inj (hx167_4.symm.trans hx168_4)
              injection ea_ with ea_ en_ ec_
              subst ea_
              subst ec_
              clear en_
              go_wp2_with (first | (go_at_call 15; (with_reducible refine (spandrelref20_Find.calls k1 _ _ l0 ((rd_T32 l1 x5_1).f1) t169 _ ?side1 ?side2 A6.out).mono ?_); (case side1 => repeat (first | exact HR0.out | (with_reducible refine Kd.C_alloc ?_ _) | (with_reducible refine Kd.C_drewN ?_ _) | (with_reducible refine Kd.C_drew ?_))); (case side2 => exact HC0.out); rintro e w' ⟨rfl, ⟨nd, rfl⟩⟩))
              go_ret
              exact ⟨by first | rfl | (simp; done) | (simp [*]; done), by repeat (first | exact Drawn0.refl _ | apply Drawn0.step)⟩
            · rw [if_neg c7] at H
              have c7b0 : decide (t169 < 0) = false := decide_eq_false c7
              clear c7
              replace H := Option.bind_eq_some_iff.mp H
              obtain ⟨t171, A80, H⟩ := H
              replace H : (if t171 = true then ((spandrelref20_names.f k1 l0 ((rd_T32 l1 x5_1).f4)).bind fun t173 => (if t173 = true then (spandrelref20_names.l0 k1 l0 l1 (wrap64 (x5_1 + 1))) else (some false))) else (some false)) = some r := H
              have A8 := Aside0.mk A80
              clear A80
              by_cases c9 : t171 = true
              · subst c9
                have H1 : ((spandrelref20_names.f k1 l0 ((rd_T32 l1 x5_1).f4)).bind fun t173 => (if t173 = true then (spandrelref20_names.l0 k1 l0 l1 (wrap64 (x5_1 + 1))) else (some false))) = some r := by rw [if_pos rfl] at H; exact H
                clear H
                have H := H1
                clear H1
                replace H := Option.bind_eq_some_iff.mp H
                obtain ⟨t173, A100, H⟩ := H
                replace H : (if t173 = true then (spandrelref20_names.l0 k1 l0 l1 (wrap64 (x5_1 + 1))) else (some false)) = some r := H
                have A10 := Aside0.mk A100
                clear A100
                by_cases c11 : t173 = true
                · subst c11
                  have H1 : (spandrelref20_names.l0 k1 l0 l1 (wrap64 (x5_1 + 1))) = some r := by rw [if_pos rfl] at H; exact H
                  clear H
                  have H := H1
                  clear H1
                  have H' := Aside0.mk H
                  clear H
                  have p167 : 0 ≤ (x5_1 : Int) := of_decide_eq_true (by first | (with_reducible assumption) | assumption)
                  have q167 : x5_1 < (l1.length : Int) := of_decide_eq_true (by first | (with_reducible assumption) | assumption)
                  obtain ⟨ad167, A167_2, c167_2, A167_3, c167_3, A167_4, c167_4, e167, hx167_0, hx167_1, hx167_2, hx167_3, hx167_4, hl167_2, hi167_2, hl167_3, hi167_3, hl167_4, hi167_4⟩ := at_T32 HR1.out x5_1 p167 q167
                  cases e167
                  have HR167_2 := Aside0.mk hi167_2
                  have HC167_2 := Aside0.mk hl167_2
                  clear hi167_2 hl167_2
                  have HR167_3 := Aside0.mk hi167_3
                  have HC167_3 := Aside0.mk hl167_3
                  clear hi167_3 hl167_3
                  have HR167_4 := Aside0.mk hi167_4
                  have HC167_4 := Aside0.mk hl167_4
                  clear hi167_4 hl167_4
                  replace p167 := eq_true p167
                  replace q167 := eq_true q167
                  have p168 : 0 ≤ (x5_1 : Int) := of_decide_eq_true (by first | (with_reducible assumption) | assumption)
                  have q168 : x5_1 < (l1.length : Int) := of_decide_eq_true (by first | (with_reducible assumption) | assumption)
                  obtain ⟨ad168, A168_2, c168_2, A168_3, c168_3, A168_4, c168_4, e168, hx168_0, hx168_1, hx168_2, hx168_3, hx168_4, hl168_2, hi168_2, hl168_3, hi168_3, hl168_4, hi168_4⟩ := at_T32 HR1.out x5_1 p168 q168
                  obtain rfl : ad167 = ad168 := (by injection e168)
                  have HR168_2 := Aside0.mk hi168_2
                  have HC168_2 := Aside0.mk hl168_2
                  clear hi168_2 hl168_2
                  have HR168_3 := Aside0.mk hi168_3
                  have HC168_3 := Aside0.mk hl168_3
                  clear hi168_3 hl168_3
                  have HR168_4 := Aside0.mk hi168_4
                  have HC168_4 := Aside0.mk hl168_4
                  clear hi168_4 hl168_4
                  replace p168 := eq_true p168
                  replace q168 := eq_true q168
                  have ea_ := Option.some.inj (hx167_2.symm.trans hx168_2)
                  injection ea_ with ea_ en_ ec_
                  subst ea_
                  subst ec_
                  clear en_
                  have ea_ := Option.some.inj (hx167_3.symm.trans hx168_3)
                  injection ea_ with ea_ en_ ec_
                  subst ea_
                  subst ec_
                  clear en_
                  have ea_ := Option.some.inj (hx167_4.symm.trans hx168_4)
                  injection ea_ with ea_ en_ ec_
                  subst ea_
                  subst ec_
                  clear en_
                  go_wp2_with (first | (go_at_call 15; (with_reducible refine (spandrelref20_Find.calls k1 _ _ l0 ((rd_T32 l1 x5_1).f1) t169 _ ?side1 ?side2 A6.out).mono ?_); (case side1 => repeat (first | exact HR0.out | (with_reducible refine Kd.C_alloc ?_ _) | (with_reducible refine Kd.C_drewN ?_ _) | (with_reducible refine Kd.C_drew ?_))); (case side2 => exact HC0.out); rintro e w' ⟨rfl, ⟨nd, rfl⟩⟩; have p170 : 0 ≤ (x5_1 : Int) := of_decide_eq_true (by first | (with_reducible assumption) | assumption); have q170 : x5_1 < (l1.length : Int) := of_decide_eq_true (by first | (with_reducible assumption) | assumption); obtain ⟨ad170, A170_2, c170_2, A170_3, c170_3, A170_4, c170_4, e170, hx170_0, hx170_1, hx170_2, hx170_3, hx170_4, hl170_2, hi170_2, hl170_3, hi170_3, hl170_4, hi170_4⟩ := at_T32 HR1.out x5_1 p170 q170; obtain rfl : ad167 = ad170 := (by injection e170); have HR170_2 := Aside0.mk hi170_2; have HC170_2 := Aside0.mk hl170_2; clear hi170_2 hl170_2; have HR170_3 := Aside0.mk hi170_3; have HC170_3 := Aside0.mk hl170_3; clear hi170_3 hl170_3; have HR170_4 := Aside0.mk hi170_4; have HC170_4 := Aside0.mk hl170_4; clear hi170_4 hl170_4; replace p170 := eq_true p170; replace q170 := eq_true q170; have ea_ := Option.some.inj (hx167_2.symm.trans hx170_2); injection ea_ with ea_ en_ ec_; subst ea_; subst ec_; clear en_; have ea_ := Option.some.inj (hx167_3.symm.trans hx170_3); injection ea_ with ea_ en_ ec_; subst ea_; subst ec_; clear en_; have ea_ := Option.some.inj (hx167_4.symm.trans hx170_4); injection ea_ with ea_ en_ ec_; subst ea_; subst ec_; clear en_) | (go_at_call 36; (with_reducible refine (ih k1 (by have := HK1.out; omega) _ _ l0 _ _ ((rd_T32 l1 x5_1).f3) true _ ?side1 ?side2 ?side3 ?side4 A8.out).mono ?_); (case side1 => repeat (first | exact HR0.out | (with_reducible refine Kd.C_alloc ?_ _) | (with_reducible refine Kd.C_drewN ?_ _) | (with_reducible refine Kd.C_drew ?_))); (case side2 => exact HC0.out); (case side3 => repeat (first | exact HR170_3.out | (with_reducible refine Kd.C_alloc ?_ _) | (with_reducible refine Kd.C_drewN ?_ _) | (with_reducible refine Kd.C_drew ?_))); (case side4 => exact HC170_3.out); rintro e w' ⟨rfl, ⟨nd, rfl⟩⟩; have p172 : 0 ≤ (x5_1 : Int) := of_decide_eq_true (by first | (with_reducible assumption) | assumption); have q172 : x5_1 < (l1.length : Int) := of_decide_eq_true (by first | (with_reducible assumption) | assumption); obtain ⟨ad172, A172_2, c172_2, A172_3, c172_3, A172_4, c172_4, e172, hx172_0, hx172_1, hx172_2, hx172_3, hx172_4, hl172_2, hi172_2, hl172_3, hi172_3, hl172_4, hi172_4⟩ := at_T32 HR1.out x5_1 p172 q172; obtain rfl : ad167 = ad172 := (by injection e172); have HR172_2 := Aside0.mk hi172_2; have HC172_2 := Aside0.mk hl172_2; clear hi172_2 hl172_2; have HR172_3 := Aside0.mk hi172_3; have HC172_3 := Aside0.mk hl172_3; clear hi172_3 hl172_3; have HR172_4 := Aside0.mk hi172_4; have HC172_4 := Aside0.mk hl172_4; clear hi172_4 hl172_4; replace p172 := eq_true p172; replace q172 := eq_true q172; have ea_ := Option.some.inj (hx167_2.symm.trans hx172_2); injection ea_ with ea_ en_ ec_; subst ea_; subst ec_; clear en_; have ea_ := Option.some.inj (hx167_3.symm.trans hx172_3); injection ea_ with ea_ en_ ec_; subst ea_; subst ec_; clear en_; have ea_ := Option.some.inj (hx167_4.symm.trans hx172_4); injection ea_ with ea_ en_ ec_; subst ea_; subst ec_; clear en_) | (go_at_call 36; (with_reducible refine (ih k1 (by have := HK1.out; omega) _ _ l0 _ _ ((rd_T32 l1 x5_1).f4) true _ ?side1 ?side2 ?side3 ?side4 A10.out).mono ?_); (case side1 => repeat (first | exact HR0.out | (with_reducible refine Kd.C_alloc ?_ _) | (with_reducible refine Kd.C_drewN ?_ _) | (with_reducible refine Kd.C_drew ?_))); (case side2 => exact HC0.out); (case side3 => repeat (first | exact HR172_4.out | (with_reducible refine Kd.C_alloc ?_ _) | (with_reducible refine Kd.C_drewN ?_ _) | (with_reducible refine Kd.C_drew ?_))); (case side4 => exact HC172_4.out); rintro e w' ⟨rfl, ⟨nd, rfl⟩⟩))
                  go_roundg k1
                  case measure => have := HK1.out; omega
                  case rel => exact ⟨(wrap64 (x5_1 + 1)), (by first | rfl | (simp; done) | (simp [*]; done)), H', ⟨by have := HK1.out; omega⟩, by repeat (first | exact Drawn0.refl _ | apply Drawn0.step)⟩
                · replace c11 := Bool.eq_false_iff.mpr c11
                  subst c11
                  have H1 : (some false) = some r := by rw [if_neg (show ¬ (false = true) by decide)] at H; exact H
                  clear H
                  have H := H1
                  clear H1
                  obtain rfl := Option.some.inj H
                  have p167 : 0 ≤ (x5_1 : Int) := of_decide_eq_true (by first | (with_reducible assumption) | assumption)
                  have q167 : x5_1 < (l1.length : Int) := of_decide_eq_true (by first | (with_reducible assumption) | assumption)
                  obtain ⟨ad167, A167_2, c167_2, A167_3, c167_3, A167_4, c167_4, e167, hx167_0, hx167_1, hx167_2, hx167_3, hx167_4, hl167_2, hi167_2, hl167_3, hi167_3, hl167_4, hi167_4⟩ := at_T32 HR1.out x5_1 p167 q167
                  cases e167
                  have HR167_2 := Aside0.mk hi167_2
                  have HC167_2 := Aside0.mk hl167_2
                  clear hi167_2 hl167_2
                  have HR167_3 := Aside0.mk hi167_3
                  have HC167_3 := Aside0.mk hl167_3
                  clear hi167_3 hl167_3
                  have HR167_4 := Aside0.mk hi167_4
                  have HC167_4 := Aside0.mk hl167_4
                  clear hi167_4 hl167_4
                  replace p167 := eq_true p167
                  replace q167 := eq_true q167
                  have p168 : 0 ≤ (x5_1 : Int) := of_decide_eq_true (by first | (with_reducible assumption) | assumption)
                  have q168 : x5_1 < (l1.length : Int) := of_decide_eq_true (by first | (with_reducible assumption) | assumption)
                  obtain ⟨ad168, A168_2, c168_2, A168_3, c168_3, A168_4, c168_4, e168, hx168_0, hx168_1, hx168_2, hx168_3, hx168_4, hl168_2, hi168_2, hl168_3, hi168_3, hl168_4, hi168_4⟩ := at_T32 HR1.out x5_1 p168 q168
                  obtain rfl : ad167 = ad168 := (by injection e168)
                  have HR168_2 := Aside0.mk hi168_2
                  have HC168_2 := Aside0.mk hl168_2
                  clear hi168_2 hl168_2
                  have HR168_3 := Aside0.mk hi168_3
                  have HC168_3 := Aside0.mk hl168_3
                  clear hi168_3 hl168_3
                  have HR168_4 := Aside0.mk hi168_4
                  have HC168_4 := Aside0.mk hl168_4
                  clear hi168_4 hl168_4
                  replace p168 := eq_true p168
                  replace q168 := eq_true q168
                  have ea_ := Option.some.inj (hx167_2.symm.trans hx168_2)
                  injection ea_ with ea_ en_ ec_
                  subst ea_
                  subst ec_
                  clear en_
                  have ea_ := Option.some.inj (hx167_3.symm.trans hx168_3)
                  injection ea_ with ea_ en_ ec_
                  subst ea_
                  subst ec_
                  clear en_
                  have ea_ := Option.some.inj (hx167_4.symm.trans hx168_4)
                  injection ea_ with ea_ en_ ec_
                  subst ea_
                  subst ec_
                  clear en_
                  go_wp2_with (first | (go_at_call 15; (with_reducible refine (spandrelref20_Find.calls k1 _ _ l0 ((rd_T32 l1 x5_1).f1) t169 _ ?side1 ?side2 A6.out).mono ?_); (case side1 => repeat (first | exact HR0.out | (with_reducible refine Kd.C_alloc ?_ _) | (with_reducible refine Kd.C_drewN ?_ _) | (with_reducible refine Kd.C_drew ?_))); (case side2 => exact HC0.out); rintro e w' ⟨rfl, ⟨nd, rfl⟩⟩; have p170 : 0 ≤ (x5_1 : Int) := of_decide_eq_true (by first | (with_reducible assumption) | assumption); have q170 : x5_1 < (l1.length : Int) := of_decide_eq_true (by first | (with_reducible assumption) | assumption); obtain ⟨ad170, A170_2, c170_2, A170_3, c170_3, A170_4, c170_4, e170, hx170_0, hx170_1, hx170_2, hx170_3, hx170_4, hl170_2, hi170_2, hl170_3, hi170_3, hl170_4, hi170_4⟩ := at_T32 HR1.out x5_1 p170 q170; obtain rfl : ad167 = ad170 := (by injection e170); have HR170_2 := Aside0.mk hi170_2; have HC170_2 := Aside0.mk hl170_2; clear hi170_2 hl170_2; have HR170_3 := Aside0.mk hi170_3; have HC170_3 := Aside0.mk hl170_3; clear hi170_3 hl170_3; have HR170_4 := Aside0.mk hi170_4; have HC170_4 := Aside0.mk hl170_4; clear hi170_4 hl170_4; replace p170 := eq_true p170; replace q170 := eq_true q170; have ea_ := Option.some.inj (hx167_2.symm.trans hx170_2); injection ea_ with ea_ en_ ec_; subst ea_; subst ec_; clear en_; have ea_ := Option.some.inj (hx167_3.symm.trans hx170_3); injection ea_ with ea_ en_ ec_; subst ea_; subst ec_; clear en_; have ea_ := Option.some.inj (hx167_4.symm.trans hx170_4); injection ea_ with ea_ en_ ec_; subst ea_; subst ec_; clear en_) | (go_at_call 36; (with_reducible refine (ih k1 (by have := HK1.out; omega) _ _ l0 _ _ ((rd_T32 l1 x5_1).f3) true _ ?side1 ?side2 ?side3 ?side4 A8.out).mono ?_); (case side1 => repeat (first | exact HR0.out | (with_reducible refine Kd.C_alloc ?_ _) | (with_reducible refine Kd.C_drewN ?_ _) | (with_reducible refine Kd.C_drew ?_))); (case side2 => exact HC0.out); (case side3 => repeat (first | exact HR170_3.out | (with_reducible refine Kd.C_alloc ?_ _) | (with_reducible refine Kd.C_drewN ?_ _) | (with_reducible refine Kd.C_drew ?_))); (case side4 => exact HC170_3.out); rintro e w' ⟨rfl, ⟨nd, rfl⟩⟩; have p172 : 0 ≤ (x5_1 : Int) := of_decide_eq_true (by first | (with_reducible assumption) | assumption); have q172 : x5_1 < (l1.length : Int) := of_decide_eq_true (by first | (with_reducible assumption) | assumption); obtain ⟨ad172, A172_2, c172_2, A172_3, c172_3, A172_4, c172_4, e172, hx172_0, hx172_1, hx172_2, hx172_3, hx172_4, hl172_2, hi172_2, hl172_3, hi172_3, hl172_4, hi172_4⟩ := at_T32 HR1.out x5_1 p172 q172; obtain rfl : ad167 = ad172 := (by injection e172); have HR172_2 := Aside0.mk hi172_2; have HC172_2 := Aside0.mk hl172_2; clear hi172_2 hl172_2; have HR172_3 := Aside0.mk hi172_3; have HC172_3 := Aside0.mk hl172_3; clear hi172_3 hl172_3; have HR172_4 := Aside0.mk hi172_4; have HC172_4 := Aside0.mk hl172_4; clear hi172_4 hl172_4; replace p172 := eq_true p172; replace q172 := eq_true q172; have ea_ := Option.some.inj (hx167_2.symm.trans hx172_2); injection ea_ with ea_ en_ ec_; subst ea_; subst ec_; clear en_; have ea_ := Option.some.inj (hx167_3.symm.trans hx172_3); injection ea_ with ea_ en_ ec_; subst ea_; subst ec_; clear en_; have ea_ := Option.some.inj (hx167_4.symm.trans hx172_4); injection ea_ with ea_ en_ ec_; subst ea_; subst ec_; clear en_) | (go_at_call 36; (with_reducible refine (ih k1 (by have := HK1.out; omega) _ _ l0 _ _ ((rd_T32 l1 x5_1).f4) false _ ?side1 ?side2 ?side3 ?side4 A10.out).mono ?_); (case side1 => repeat (first | exact HR0.out | (with_reducible refine Kd.C_alloc ?_ _) | (with_reducible refine Kd.C_drewN ?_ _) | (with_reducible refine Kd.C_drew ?_))); (case side2 => exact HC0.out); (case side3 => repeat (first | exact HR172_4.out | (with_reducible refine Kd.C_alloc ?_ _) | (with_reducible refine Kd.C_drewN ?_ _) | (with_reducible refine Kd.C_drew ?_))); (case side4 => exact HC172_4.out); rintro e w' ⟨rfl, ⟨nd, rfl⟩⟩))
                  go_ret
                  exact ⟨by first | rfl | (simp; done) | (simp [*]; done), by repeat (first | exact Drawn0.refl _ | apply Drawn0.step)⟩
              · replace c9 := Bool.eq_false_iff.mpr c9
                subst c9
                have H1 : (some false) = some r := by rw [if_neg (show ¬ (false = true) by decide)] at H; exact H
                clear H
                have H := H1
                clear H1
                obtain rfl := Option.some.inj H
                have p167 : 0 ≤ (x5_1 : Int) := of_decide_eq_true (by first | (with_reducible assumption) | assumption)
                have q167 : x5_1 < (l1.length : Int) := of_decide_eq_true (by first | (with_reducible assumption) | assumption)
                obtain ⟨ad167, A167_2, c167_2, A167_3, c167_3, A167_4, c167_4, e167, hx167_0, hx167_1, hx167_2, hx167_3, hx167_4, hl167_2, hi167_2, hl167_3, hi167_3, hl167_4, hi167_4⟩ := at_T32 HR1.out x5_1 p167 q167
                cases e167
                have HR167_2 := Aside0.mk hi167_2
                have HC167_2 := Aside0.mk hl167_2
                clear hi167_2 hl167_2
                have HR167_3 := Aside0.mk hi167_3
                have HC167_3 := Aside0.mk hl167_3
                clear hi167_3 hl167_3
                have HR167_4 := Aside0.mk hi167_4
                have HC167_4 := Aside0.mk hl167_4
                clear hi167_4 hl167_4
                replace p167 := eq_true p167
                replace q167 := eq_true q167
                have p168 : 0 ≤ (x5_1 : Int) := of_decide_eq_true (by first | (with_reducible assumption) | assumption)
                have q168 : x5_1 < (l1.length : Int) := of_decide_eq_true (by first | (with_reducible assumption) | assumption)
                obtain ⟨ad168, A168_2, c168_2, A168_3, c168_3, A168_4, c168_4, e168, hx168_0, hx168_1, hx168_2, hx168_3, hx168_4, hl168_2, hi168_2, hl168_3, hi168_3, hl168_4, hi168_4⟩ := at_T32 HR1.out x5_1 p168 q168
                obtain rfl : ad167 = ad168 := (by injection e168)
                have HR168_2 := Aside0.mk hi168_2
                have HC168_2 := Aside0.mk hl168_2
                clear hi168_2 hl168_2
                have HR168_3 := Aside0.mk hi168_3
                have HC168_3 := Aside0.mk hl168_3
                clear hi168_3 hl168_3
                have HR168_4 := Aside0.mk hi168_4
                have HC168_4 := Aside0.mk hl168_4
                clear hi168_4 hl168_4
                replace p168 := eq_true p168
                replace q168 := eq_true q168
                have ea_ := Option.some.inj (hx167_2.symm.trans hx168_2)
                injection ea_ with ea_ en_ ec_
                subst ea_
                subst ec_
                clear en_
                have ea_ := Option.some.inj (hx167_3.symm.trans hx168_3)
                injection ea_ with ea_ en_ ec_
                subst ea_
                subst ec_
                clear en_
                have ea_ := Option.some.inj (hx167_4.symm.trans hx168_4)
                injection ea_ with ea_ en_ ec_
                subst ea_
                subst ec_
                clear en_
                go_wp2_with (first | (go_at_call 15; (with_reducible refine (spandrelref20_Find.calls k1 _ _ l0 ((rd_T32 l1 x5_1).f1) t169 _ ?side1 ?side2 A6.out).mono ?_); (case side1 => repeat (first | exact HR0.out | (with_reducible refine Kd.C_alloc ?_ _) | (with_reducible refine Kd.C_drewN ?_ _) | (with_reducible refine Kd.C_drew ?_))); (case side2 => exact HC0.out); rintro e w' ⟨rfl, ⟨nd, rfl⟩⟩; have p170 : 0 ≤ (x5_1 : Int) := of_decide_eq_true (by first | (with_reducible assumption) | assumption); have q170 : x5_1 < (l1.length : Int) := of_decide_eq_true (by first | (with_reducible assumption) | assumption); obtain ⟨ad170, A170_2, c170_2, A170_3, c170_3, A170_4, c170_4, e170, hx170_0, hx170_1, hx170_2, hx170_3, hx170_4, hl170_2, hi170_2, hl170_3, hi170_3, hl170_4, hi170_4⟩ := at_T32 HR1.out x5_1 p170 q170; obtain rfl : ad167 = ad170 := (by injection e170); have HR170_2 := Aside0.mk hi170_2; have HC170_2 := Aside0.mk hl170_2; clear hi170_2 hl170_2; have HR170_3 := Aside0.mk hi170_3; have HC170_3 := Aside0.mk hl170_3; clear hi170_3 hl170_3; have HR170_4 := Aside0.mk hi170_4; have HC170_4 := Aside0.mk hl170_4; clear hi170_4 hl170_4; replace p170 := eq_true p170; replace q170 := eq_true q170; have ea_ := Option.some.inj (hx167_2.symm.trans hx170_2); injection ea_ with ea_ en_ ec_; subst ea_; subst ec_; clear en_; have ea_ := Option.some.inj (hx167_3.symm.trans hx170_3); injection ea_ with ea_ en_ ec_; subst ea_; subst ec_; clear en_; have ea_ := Option.some.inj (hx167_4.symm.trans hx170_4); injection ea_ with ea_ en_ ec_; subst ea_; subst ec_; clear en_) | (go_at_call 36; (with_reducible refine (ih k1 (by have := HK1.out; omega) _ _ l0 _ _ ((rd_T32 l1 x5_1).f3) false _ ?side1 ?side2 ?side3 ?side4 A8.out).mono ?_); (case side1 => repeat (first | exact HR0.out | (with_reducible refine Kd.C_alloc ?_ _) | (with_reducible refine Kd.C_drewN ?_ _) | (with_reducible refine Kd.C_drew ?_))); (case side2 => exact HC0.out); (case side3 => repeat (first | exact HR170_3.out | (with_reducible refine Kd.C_alloc ?_ _) | (with_reducible refine Kd.C_drewN ?_ _) | (with_reducible refine Kd.C_drew ?_))); (case side4 => exact HC170_3.out); rintro e w' ⟨rfl, ⟨nd, rfl⟩⟩))
                go_ret
                exact ⟨by first | rfl | (simp; done) | (simp [*]; done), by repeat (first | exact Drawn0.refl _ | apply Drawn0.step)⟩
          · rw [if_neg c5] at H
            have c5b0 : (((rd_T32 l1 x5_1).f0) == 2) = false := beq_eq_false_iff_ne.mpr c5
            have c5b1 : (((rd_T32 l1 x5_1).f0) != 2) = true := bne_iff_ne.mpr c5
            replace H := Option.bind_eq_some_iff.mp H
            obtain ⟨t175, A120, H⟩ := H
            replace H : (if t175 = true then ((spandrelref20_names.f k1 l0 ((rd_T32 l1 x5_1).f4)).bind fun t177 => (if t177 = true then (spandrelref20_names.l0 k1 l0 l1 (wrap64 (x5_1 + 1))) else (some false))) else (some false)) = some r := H
            have A12 := Aside0.mk A120
            clear A120
            by_cases c13 : t175 = true
            · subst c13
              have H1 : ((spandrelref20_names.f k1 l0 ((rd_T32 l1 x5_1).f4)).bind fun t177 => (if t177 = true then (spandrelref20_names.l0 k1 l0 l1 (wrap64 (x5_1 + 1))) else (some false))) = some r := by rw [if_pos rfl] at H; exact H
              clear H
              have H := H1
              clear H1
              replace H := Option.bind_eq_some_iff.mp H
              obtain ⟨t177, A140, H⟩ := H
              replace H : (if t177 = true then (spandrelref20_names.l0 k1 l0 l1 (wrap64 (x5_1 + 1))) else (some false)) = some r := H
              have A14 := Aside0.mk A140
              clear A140
              by_cases c15 : t177 = true
              · subst c15
                have H1 : (spandrelref20_names.l0 k1 l0 l1 (wrap64 (x5_1 + 1))) = some r := by rw [if_pos rfl] at H; exact H
                clear H
                have H := H1
                clear H1
                have H' := Aside0.mk H
                clear H
                have p167 : 0 ≤ (x5_1 : Int) := of_decide_eq_true (by first | (with_reducible assumption) | assumption)
                have q167 : x5_1 < (l1.length : Int) := of_decide_eq_true (by first | (with_reducible assumption) | assumption)
                obtain ⟨ad167, A167_2, c167_2, A167_3, c167_3, A167_4, c167_4, e167, hx167_0, hx167_1, hx167_2, hx167_3, hx167_4, hl167_2, hi167_2, hl167_3, hi167_3, hl167_4, hi167_4⟩ := at_T32 HR1.out x5_1 p167 q167
                cases e167
                have HR167_2 := Aside0.mk hi167_2
                have HC167_2 := Aside0.mk hl167_2
                clear hi167_2 hl167_2
                have HR167_3 := Aside0.mk hi167_3
                have HC167_3 := Aside0.mk hl167_3
                clear hi167_3 hl167_3
                have HR167_4 := Aside0.mk hi167_4
                have HC167_4 := Aside0.mk hl167_4
                clear hi167_4 hl167_4
                replace p167 := eq_true p167
                replace q167 := eq_true q167
                have p174 : 0 ≤ (x5_1 : Int) := of_decide_eq_true (by first | (with_reducible assumption) | assumption)
                have q174 : x5_1 < (l1.length : Int) := of_decide_eq_true (by first | (with_reducible assumption) | assumption)
                obtain ⟨ad174, A174_2, c174_2, A174_3, c174_3, A174_4, c174_4, e174, hx174_0, hx174_1, hx174_2, hx174_3, hx174_4, hl174_2, hi174_2, hl174_3, hi174_3, hl174_4, hi174_4⟩ := at_T32 HR1.out x5_1 p174 q174
                obtain rfl : ad167 = ad174 := (by injection e174)
                have HR174_2 := Aside0.mk hi174_2
                have HC174_2 := Aside0.mk hl174_2
                clear hi174_2 hl174_2
                have HR174_3 := Aside0.mk hi174_3
                have HC174_3 := Aside0.mk hl174_3
                clear hi174_3 hl174_3
                have HR174_4 := Aside0.mk hi174_4
                have HC174_4 := Aside0.mk hl174_4
                clear hi174_4 hl174_4
                replace p174 := eq_true p174
                replace q174 := eq_true q174
                have ea_ := Option.some.inj (hx167_2.symm.trans hx174_2)
                injection ea_ with ea_ en_ ec_
                subst ea_
                subst ec_
                clear en_
                have ea_ := Option.some.inj (hx167_3.symm.trans hx174_3)
                injection ea_ with ea_ en_ ec_
                subst ea_
                subst ec_
                clear en_
                have ea_ := Option.some.inj (hx167_4.symm.trans hx174_4)
                injection ea_ with ea_ en_ ec_
                subst ea_
                subst ec_
                clear en_
                go_wp2_with (first | (go_at_call 36; (with_reducible refine (ih k1 (by have := HK1.out; omega) _ _ l0 _ _ ((rd_T32 l1 x5_1).f3) true _ ?side1 ?side2 ?side3 ?side4 A12.out).mono ?_); (case side1 => repeat (first | exact HR0.out | (with_reducible refine Kd.C_alloc ?_ _) | (with_reducible refine Kd.C_drewN ?_ _) | (with_reducible refine Kd.C_drew ?_))); (case side2 => exact HC0.out); (case side3 => repeat (first | exact HR174_3.out | (with_reducible refine Kd.C_alloc ?_ _) | (with_reducible refine Kd.C_drewN ?_ _) | (with_reducible refine Kd.C_drew ?_))); (case side4 => exact HC174_3.out); rintro e w' ⟨rfl, ⟨nd, rfl⟩⟩; have p176 : 0 ≤ (x5_1 : Int) := of_decide_eq_true (by first | (with_reducible assumption) | assumption); have q176 : x5_1 < (l1.length : Int) := of_decide_eq_true (by first | (with_reducible assumption) | assumption); obtain ⟨ad176, A176_2, c176_2, A176_3, c176_3, A176_4, c176_4, e176, hx176_0, hx176_1, hx176_2, hx176_3, hx176_4, hl176_2, hi176_2, hl176_3, hi176_3, hl176_4, hi176_4⟩ := at_T32 HR1.out x5_1 p176 q176; obtain rfl : ad167 = ad176 := (by injection e176); have HR176_2 := Aside0.mk hi176_2; have HC176_2 := Aside0.mk hl176_2; clear hi176_2 hl176_2; have HR176_3 := Aside0.mk hi176_3; have HC176_3 := Aside0.mk hl176_3; clear hi176_3 hl176_3; have HR176_4 := Aside0.mk hi176_4; have HC176_4 := Aside0.mk hl176_4; clear hi176_4 hl176_4; replace p176 := eq_true p176; replace q176 := eq_true q176; have ea_ := Option.some.inj (hx167_2.symm.trans hx176_2); injection ea_ with ea_ en_ ec_; subst ea_; subst ec_; clear en_; have ea_ := Option.some.inj (hx167_3.symm.trans hx176_3); injection ea_ with ea_ en_ ec_; subst ea_; subst ec_; clear en_; have ea_ := Option.some.inj (hx167_4.symm.trans hx176_4); injection ea_ with ea_ en_ ec_; subst ea_; subst ec_; clear en_) | (go_at_call 36; (with_reducible refine (ih k1 (by have := HK1.out; omega) _ _ l0 _ _ ((rd_T32 l1 x5_1).f4) true _ ?side1 ?side2 ?side3 ?side4 A14.out).mono ?_); (case side1 => repeat (first | exact HR0.out | (with_reducible refine Kd.C_alloc ?_ _) | (with_reducible refine Kd.C_drewN ?_ _) | (with_reducible refine Kd.C_drew ?_))); (case side2 => exact HC0.out); (case side3 => repeat (first | exact HR176_4.out | (with_reducible refine Kd.C_alloc ?_ _) | (with_reducible refine Kd.C_drewN ?_ _) | (with_reducible refine Kd.C_drew ?_))); (case side4 => exact HC176_4.out); rintro e w' ⟨rfl, ⟨nd, rfl⟩⟩))
                go_roundg k1
                case measure => have := HK1.out; omega
                case rel => exact ⟨(wrap64 (x5_1 + 1)), (by first | rfl | (simp; done) | (simp [*]; done)), H', ⟨by have := HK1.out; omega⟩, by repeat (first | exact Drawn0.refl _ | apply Drawn0.step)⟩
              · replace c15 := Bool.eq_false_iff.mpr c15
                subst c15
                have H1 : (some false) = some r := by rw [if_neg (show ¬ (false = true) by decide)] at H; exact H
                clear H
                have H := H1
                clear H1
                obtain rfl := Option.some.inj H
                have p167 : 0 ≤ (x5_1 : Int) := of_decide_eq_true (by first | (with_reducible assumption) | assumption)
                have q167 : x5_1 < (l1.length : Int) := of_decide_eq_true (by first | (with_reducible assumption) | assumption)
                obtain ⟨ad167, A167_2, c167_2, A167_3, c167_3, A167_4, c167_4, e167, hx167_0, hx167_1, hx167_2, hx167_3, hx167_4, hl167_2, hi167_2, hl167_3, hi167_3, hl167_4, hi167_4⟩ := at_T32 HR1.out x5_1 p167 q167
                cases e167
                have HR167_2 := Aside0.mk hi167_2
                have HC167_2 := Aside0.mk hl167_2
                clear hi167_2 hl167_2
                have HR167_3 := Aside0.mk hi167_3
                have HC167_3 := Aside0.mk hl167_3
                clear hi167_3 hl167_3
                have HR167_4 := Aside0.mk hi167_4
                have HC167_4 := Aside0.mk hl167_4
                clear hi167_4 hl167_4
                replace p167 := eq_true p167
                replace q167 := eq_true q167
                have p174 : 0 ≤ (x5_1 : Int) := of_decide_eq_true (by first | (with_reducible assumption) | assumption)
                have q174 : x5_1 < (l1.length : Int) := of_decide_eq_true (by first | (with_reducible assumption) | assumption)
                obtain ⟨ad174, A174_2, c174_2, A174_3, c174_3, A174_4, c174_4, e174, hx174_0, hx174_1, hx174_2, hx174_3, hx174_4, hl174_2, hi174_2, hl174_3, hi174_3, hl174_4, hi174_4⟩ := at_T32 HR1.out x5_1 p174 q174
                obtain rfl : ad167 = ad174 := (by injection e174)
                have HR174_2 := Aside0.mk hi174_2
                have HC174_2 := Aside0.mk hl174_2
                clear hi174_2 hl174_2
                have HR174_3 := Aside0.mk hi174_3
                have HC174_3 := Aside0.mk hl174_3
                clear hi174_3 hl174_3
                have HR174_4 := Aside0.mk hi174_4
                have HC174_4 := Aside0.mk hl174_4
                clear hi174_4 hl174_4
                replace p174 := eq_true p174
                replace q174 := eq_true q174
                have ea_ := Option.some.inj (hx167_2.symm.trans hx174_2)
                injection ea_ with ea_ en_ ec_
                subst ea_
                subst ec_
                clear en_
                have ea_ := Option.some.inj (hx167_3.symm.trans hx174_3)
                injection ea_ with ea_ en_ ec_
                subst ea_
                subst ec_
                clear en_
                have ea_ := Option.some.inj (hx167_4.symm.trans hx174_4)
                injection ea_ with ea_ en_ ec_
                subst ea_
                subst ec_
                clear en_
                go_wp2_with (first | (go_at_call 36; (with_reducible refine (ih k1 (by have := HK1.out; omega) _ _ l0 _ _ ((rd_T32 l1 x5_1).f3) true _ ?side1 ?side2 ?side3 ?side4 A12.out).mono ?_); (case side1 => repeat (first | exact HR0.out | (with_reducible refine Kd.C_alloc ?_ _) | (with_reducible refine Kd.C_drewN ?_ _) | (with_reducible refine Kd.C_drew ?_))); (case side2 => exact HC0.out); (case side3 => repeat (first | exact HR174_3.out | (with_reducible refine Kd.C_alloc ?_ _) | (with_reducible refine Kd.C_drewN ?_ _) | (with_reducible refine Kd.C_drew ?_))); (case side4 => exact HC174_3.out); rintro e w' ⟨rfl, ⟨nd, rfl⟩⟩; have p176 : 0 ≤ (x5_1 : Int) := of_decide_eq_true (by first | (with_reducible assumption) | assumption); have q176 : x5_1 < (l1.length : Int) := of_decide_eq_true (by first | (with_reducible assumption) | assumption); obtain ⟨ad176, A176_2, c176_2, A176_3, c176_3, A176_4, c176_4, e176, hx176_0, hx176_1, hx176_2, hx176_3, hx176_4, hl176_2, hi176_2, hl176_3, hi176_3, hl176_4, hi176_4⟩ := at_T32 HR1.out x5_1 p176 q176; obtain rfl : ad167 = ad176 := (by injection e176); have HR176_2 := Aside0.mk hi176_2; have HC176_2 := Aside0.mk hl176_2; clear hi176_2 hl176_2; have HR176_3 := Aside0.mk hi176_3; have HC176_3 := Aside0.mk hl176_3; clear hi176_3 hl176_3; have HR176_4 := Aside0.mk hi176_4; have HC176_4 := Aside0.mk hl176_4; clear hi176_4 hl176_4; replace p176 := eq_true p176; replace q176 := eq_true q176; have ea_ := Option.some.inj (hx167_2.symm.trans hx176_2); injection ea_ with ea_ en_ ec_; subst ea_; subst ec_; clear en_; have ea_ := Option.some.inj (hx167_3.symm.trans hx176_3); injection ea_ with ea_ en_ ec_; subst ea_; subst ec_; clear en_; have ea_ := Option.some.inj (hx167_4.symm.trans hx176_4); injection ea_ with ea_ en_ ec_; subst ea_; subst ec_; clear en_) | (go_at_call 36; (with_reducible refine (ih k1 (by have := HK1.out; omega) _ _ l0 _ _ ((rd_T32 l1 x5_1).f4) false _ ?side1 ?side2 ?side3 ?side4 A14.out).mono ?_); (case side1 => repeat (first | exact HR0.out | (with_reducible refine Kd.C_alloc ?_ _) | (with_reducible refine Kd.C_drewN ?_ _) | (with_reducible refine Kd.C_drew ?_))); (case side2 => exact HC0.out); (case side3 => repeat (first | exact HR176_4.out | (with_reducible refine Kd.C_alloc ?_ _) | (with_reducible refine Kd.C_drewN ?_ _) | (with_reducible refine Kd.C_drew ?_))); (case side4 => exact HC176_4.out); rintro e w' ⟨rfl, ⟨nd, rfl⟩⟩))
                go_ret
                exact ⟨by first | rfl | (simp; done) | (simp [*]; done), by repeat (first | exact Drawn0.refl _ | apply Drawn0.step)⟩
            · replace c13 := Bool.eq_false_iff.mpr c13
              subst c13
              have H1 : (some false) = some r := by rw [if_neg (show ¬ (false = true) by decide)] at H; exact H
              clear H
              have H := H1
              clear H1
              obtain rfl := Option.some.inj H
              have p167 : 0 ≤ (x5_1 : Int) := of_decide_eq_true (by first | (with_reducible assumption) | assumption)
              have q167 : x5_1 < (l1.length : Int) := of_decide_eq_true (by first | (with_reducible assumption) | assumption)
              obtain ⟨ad167, A167_2, c167_2, A167_3, c167_3, A167_4, c167_4, e167, hx167_0, hx167_1, hx167_2, hx167_3, hx167_4, hl167_2, hi167_2, hl167_3, hi167_3, hl167_4, hi167_4⟩ := at_T32 HR1.out x5_1 p167 q167
              cases e167
              have HR167_2 := Aside0.mk hi167_2
              have HC167_2 := Aside0.mk hl167_2
              clear hi167_2 hl167_2
              have HR167_3 := Aside0.mk hi167_3
              have HC167_3 := Aside0.mk hl167_3
              clear hi167_3 hl167_3
              have HR167_4 := Aside0.mk hi167_4
              have HC167_4 := Aside0.mk hl167_4
              clear hi167_4 hl167_4
              replace p167 := eq_true p167
              replace q167 := eq_true q167
              have p174 : 0 ≤ (x5_1 : Int) := of_decide_eq_true (by first | (with_reducible assumption) | assumption)
              have q174 : x5_1 < (l1.length : Int) := of_decide_eq_true (by first | (with_reducible assumption) | assumption)
              obtain ⟨ad174, A174_2, c174_2, A174_3, c174_3, A174_4, c174_4, e174, hx174_0, hx174_1, hx174_2, hx174_3, hx174_4, hl174_2, hi174_2, hl174_3, hi174_3, hl174_4, hi174_4⟩ := at_T32 HR1.out x5_1 p174 q174
              obtain rfl : ad167 = ad174 := (by injection e174)
              have HR174_2 := Aside0.mk hi174_2
              have HC174_2 := Aside0.mk hl174_2
              clear hi174_2 hl174_2
              have HR174_3 := Aside0.mk hi174_3
              have HC174_3 := Aside0.mk hl174_3
              clear hi174_3 hl174_3
              have HR174_4 := Aside0.mk hi174_4
              have HC174_4 := Aside0.mk hl174_4
              clear hi174_4 hl174_4
              replace p174 := eq_true p174
              replace q174 := eq_true q174
              have ea_ := Option.some.inj (hx167_2.symm.trans hx174_2)
              injection ea_ with ea_ en_ ec_
              subst ea_
              subst ec_
              clear en_
              have ea_ := Option.some.inj (hx167_3.symm.trans hx174_3)
              injection ea_ with ea_ en_ ec_
              subst ea_
              subst ec_
              clear en_
              have ea_ := Option.some.inj (hx167_4.symm.trans hx174_4)
              injection ea_ with ea_ en_ ec_
              subst ea_
              subst ec_
              clear en_
              go_wp2_with (first | (go_at_call 36; (with_reducible refine (ih k1 (by have := HK1.out; omega) _ _ l0 _ _ ((rd_T32 l1 x5_1).f3) false _ ?side1 ?side2 ?side3 ?side4 A12.out).mono ?_); (case side1 => repeat (first | exact HR0.out | (with_reducible refine Kd.C_alloc ?_ _) | (with_reducible refine Kd.C_drewN ?_ _) | (with_reducible refine Kd.C_drew ?_))); (case side2 => exact HC0.out); (case side3 => repeat (first | exact HR174_3.out | (with_reducible refine Kd.C_alloc ?_ _) | (with_reducible refine Kd.C_drewN ?_ _) | (with_reducible refine Kd.C_drew ?_))); (case side4 => exact HC174_3.out); rintro e w' ⟨rfl, ⟨nd, rfl⟩⟩))
              go_ret
              exact ⟨by first | rfl | (simp; done) | (simp [*]; done), by repeat (first | exact Drawn0.refl _ | apply Drawn0.step)⟩
        · rw [if_neg c4] at H
          exact absurd H (by simp)
      · rw [if_neg c3] at H
        have c3b0 : decide (x5_1 < (l1.length : Int)) = false := decide_eq_false c3
        clear c3
        obtain rfl := Option.some.inj H
        go_wp2
        go_ret
        exact ⟨by first | rfl | (simp; done) | (simp [*]; done), by repeat (first | exact Drawn0.refl _ | apply Drawn0.step)⟩

end Go.Proofs.Ytbjddomocggjmaa.PFragcheckChecks
