/- The walk of spans.Right. -/
import Derived.Test.YtkidoggmlafkgaaSpO
namespace Go.Proofs.Ytkidoggmlafkgaa.Span
open Go.RowKit Go.Proofs.Ytkidoggmlafkgaa.Sep
variable {B : Nat} {w0 w : World} {R : HP}

/-- Right, as a test from left to right: prev is the end of what lies ahead. -/
def rightB : Option Int → List Rg → Bool
  | _, [] => true
  | none, r :: s => decide (r.1 ≤ r.2) && rightB (some r.2) s
  | some e, r :: s => decide (r.1 ≤ r.2) && decide (e + 1 < r.1) && rightB (some r.2) s
theorem rightB_from (e : Int) (s : List Rg) : rightB (some e) s = true ↔ rightFrom (e + 1) s := by
  induction s generalizing e with
  | nil => simp [rightB, rightFrom]
  | cons r s ih =>
    simp only [rightB, rightFrom, Bool.and_eq_true, decide_eq_true_eq, ih]
    constructor
    · rintro ⟨⟨a, b⟩, c⟩; exact ⟨b, a, c⟩
    · rintro ⟨b, a, c⟩; exact ⟨⟨a, b⟩, c⟩
theorem rightB_right (s : List Rg) : rightB none s = true ↔ right s := by
  cases s with
  | nil => simp [rightB, right, rightFrom]
  | cons r s =>
    simp only [rightB, Bool.and_eq_true, decide_eq_true_eq, rightB_from]
    constructor
    · rintro ⟨a, b⟩; exact ⟨r.1 - 1, by omega, a, b⟩
    · rintro ⟨b, h1, h2, h3⟩; exact ⟨h2, h3⟩
def prevE (s : List Rg) (k : Nat) : Option Int := if k = 0 then none else (s[k - 1]?).map (·.2)

set_option maxHeartbeats 2000000 in
theorem right_calls (v : Value) (s : List Rg) (h : St B w0 w R) (ha : ∀ W, St B w0 W R → R2 W v s) (hok : ∀ r ∈ s, okR r) :
    Calls Try.prog 14 #[v] w fun e w' => e = .returned (.bool (rightB none s)) ∧ St B w0 w' R := by
  have H := Lib.hid (And.intro h (And.intro ha hok))
  obtain ⟨A, c, rfl, hc, hcm, -⟩ := ha w h
  simp only [maxLen] at hcm
  have hl : s.length ≤ 9223372036854775807 := by omega
  clear h ha hok hc hcm
  go_enter Try.func14, Try.ntmps14
  go_wp2_with fail
  go_loopw [7] (fun i wr => ∃ k : Nat, k ≤ s.length ∧ i = .int .i64 k ∧ Hid (rightB none s = rightB (prevE s k) (s.drop k)) ∧ Hid (St B w0 wr R)) (fun i _ => s.length - (intOf i).toNat)
  case atStart => exact ⟨0, Nat.zero_le _, rfl, Lib.hid rfl, Lib.hid H.out.1⟩
  case round =>
    obtain ⟨k, hk, rfl, HB, HS⟩ := hrel
    by_cases hlt : k < s.length
    · obtain ⟨x, hx⟩ : ∃ x, s[k]? = some x := ⟨_, List.getElem?_eq_getElem hlt⟩
      obtain ⟨_, _, e, _, _, hat⟩ := id (H.out.2.1 _ (HS.out.alloc (.cells #[.int .i64 x.1, .int .i64 x.2] 32)).drop)
      obtain ⟨_, _, e', _, _, hat'⟩ := id (H.out.2.1 _ HS.out)
      obtain ⟨g, off, e2, d0, d1⟩ := hat' k x hx
      simp only [Value.slice.injEq] at e e'
      obtain ⟨rfl, -, rfl⟩ := e'
      subst e2
      obtain ⟨e3, -, -⟩ := e
      have ed : s.drop k = x :: s.drop (k + 1) := by
        have ek := (List.getElem?_eq_some_iff.1 hx).2
        rw [← ek]
        exact List.drop_eq_getElem_cons hlt
      have ep : prevE s (k + 1) = some x.2 := by unfold prevE; rw [if_neg (by omega), Nat.add_sub_cancel, hx]; rfl
      obtain ⟨x1, x2, x3, x4⟩ := H.out.2.2 x (List.mem_of_getElem? hx)
      simp only [minI, maxI] at x1 x2 x3 x4
      have HA := Lib.hid (HS.out.alloc (.cells #[.int .i64 x.1, .int .i64 x.2] 32))
      have m0 := HA.out.cell 0 rfl
      have m1 := HA.out.cell 1 rfl
      rcases Nat.eq_zero_or_pos k with hk0 | hk0
      · have bz : decide (0 < k) = false := decide_eq_false (by omega)
        have HZ := Lib.hid hk0
        clear hat hat' hx e3 hk0
        by_cases hb : x.1 ≤ x.2
        · have bb : decide (x.1 > x.2) = false := decide_eq_false (by omega)
          have HQ : Hid (rightB none s = rightB (prevE s (k + 1)) (s.drop (k + 1))) := Lib.hid (by
            have ez : prevE s k = none := by unfold prevE; rw [if_pos HZ.out]
            rw [HB.out, ed, ep, ez]
            show (decide (x.1 ≤ x.2) && rightB (some x.2) (s.drop (k + 1))) = _
            rw [decide_eq_true hb]
            rfl)
          clear ed ep
          go_wp2_with fail
          go_quiet (fail)
          go_wp2
          exact ⟨⟨k + 1, by omega, by go_num, HQ, Lib.hid (HA.out.drop.drewN _)⟩, by simp only [intOf]; omega⟩
        · have bb : decide (x.1 > x.2) = true := decide_eq_true (by omega)
          have HQ : Hid (rightB none s = false) := Lib.hid (by
            have ez : prevE s k = none := by unfold prevE; rw [if_pos HZ.out]
            rw [HB.out, ed, ez]
            show (decide (x.1 ≤ x.2) && rightB (some x.2) (s.drop (k + 1))) = _
            rw [decide_eq_false hb]
            rfl)
          clear ed ep
          go_wp2_with fail
          go_quiet (fail)
          go_wp2
          go_ret
          rw [HQ.out]
          exact ⟨rfl, HA.out.drop.drewN _⟩
      · obtain ⟨k, rfl⟩ : ∃ j, k = j + 1 := ⟨k - 1, by omega⟩
        clear hk0
        obtain ⟨y, hy⟩ : ∃ y, s[k]? = some y := ⟨_, List.getElem?_eq_getElem (by omega)⟩
        obtain ⟨g', off', e4, q0, q1⟩ := hat k y hy
        rw [e4] at e3
        obtain ⟨rfl, rfl⟩ : g = g' ∧ off = off' := by simpa using e3
        obtain ⟨y1, y2, y3, y4⟩ := H.out.2.2 y (List.mem_of_getElem? hy)
        simp only [minI, maxI] at y1 y2 y3 y4
        have epk : prevE s (k + 1) = some y.2 := by unfold prevE; rw [if_neg (by omega), Nat.add_sub_cancel, hy]; rfl
        have hE : rightB none s = (decide (x.1 ≤ x.2) && decide (y.2 + 1 < x.1) && rightB (prevE s (k + 1 + 1)) (s.drop (k + 1 + 1))) := by rw [HB.out, epk, ed, ep]; rfl
        have HE := Lib.hid hE
        clear hat hat' hx hy e3 e4 hE epk ed ep
        by_cases hb : x.1 ≤ x.2
        · have bb : decide (x.1 > x.2) = false := decide_eq_false (by omega)
          by_cases hm : y.2 = 9223372036854775807
          · have bm : (y.2 == 9223372036854775807) = true := by simpa using hm
            have HQ : Hid (rightB none s = false) := Lib.hid (by rw [HE.out, decide_eq_false (show ¬ y.2 + 1 < x.1 by omega)]; simp)
            go_wp2_with fail
            go_quiet (fail)
            go_wp2
            go_ret
            rw [HQ.out]
            exact ⟨rfl, HA.out.drop.drewN _⟩
          · have bm : (y.2 == 9223372036854775807) = false := by simpa using hm
            by_cases hn : x.1 ≤ y.2 + 1
            · have bn : decide (x.1 ≤ y.2 + 1) = true := decide_eq_true hn
              have HQ : Hid (rightB none s = false) := Lib.hid (by rw [HE.out, decide_eq_false (show ¬ y.2 + 1 < x.1 by omega)]; simp)
              go_wp2_with fail
              go_quiet (fail)
              go_wp2
              go_ret
              rw [HQ.out]
              exact ⟨rfl, HA.out.drop.drewN _⟩
            · have bn : decide (x.1 ≤ y.2 + 1) = false := decide_eq_false hn
              have HQ : Hid (rightB none s = rightB (prevE s (k + 1 + 1)) (s.drop (k + 1 + 1))) := Lib.hid (by rw [HE.out, decide_eq_true hb, decide_eq_true (show y.2 + 1 < x.1 by omega)]; rfl)
              go_wp2_with fail
              go_quiet (fail)
              go_wp2
              exact ⟨⟨k + 1 + 1, by omega, by go_num, HQ, Lib.hid (HA.out.drop.drewN _)⟩, by simp only [intOf]; omega⟩
        · have bb : decide (x.1 > x.2) = true := decide_eq_true (by omega)
          have HQ : Hid (rightB none s = false) := Lib.hid (by rw [HE.out, decide_eq_false hb]; rfl)
          go_wp2_with fail
          go_quiet (fail)
          go_wp2
          go_ret
          rw [HQ.out]
          exact ⟨rfl, HA.out.drop.drewN _⟩
    · obtain rfl : k = s.length := by omega
      have HQ : Hid (rightB none s = true) := Lib.hid (by
        rw [HB.out, List.drop_length]
        cases prevE s s.length <;> rfl)
      go_wp2
      go_ret
      rw [HQ.out]
      exact ⟨rfl, HS.out⟩
end Go.Proofs.Ytkidoggmlafkgaa.Span
