/- The walks of the reference at layer 11: Has. -/
import Derived.Test.YtkidoggmlafkgaaSpW
namespace Go.Proofs.Ytkidoggmlafkgaa.Span
open Go.RowKit Go.Proofs.Ytkidoggmlafkgaa.Sep
variable {B : Nat} {w0 w : World} {R : HP}

set_option maxHeartbeats 1000000 in
theorem rhas_calls (v : Value) (s : List Rg) (n : Int) (h : St B w0 w R) (ha : ∀ W, St B w0 W R → R2 W v s) :
    Calls Try.prog 20 #[v, .int .i64 n] w fun e w' => e = .returned (.bool (hasB s n)) ∧ St B w0 w' R := by
  have H := Lib.hid (And.intro h ha)
  obtain ⟨A, c, rfl, hc, hcm, -⟩ := ha w h
  simp only [maxLen] at hcm
  have hl : s.length ≤ 9223372036854775807 := by omega
  clear h ha hc hcm
  go_enter Try.func20, Try.ntmps20
  go_wp2
  go_loopw [5] (fun i wr => ∃ k : Nat, k ≤ s.length ∧ i = .int .i64 k ∧ Hid (hasB s n = hasB (s.drop k) n) ∧ Hid (St B w0 wr R)) (fun i _ => s.length - (intOf i).toNat)
  case atStart => exact ⟨0, Nat.zero_le _, rfl, Lib.hid rfl, Lib.hid H.out.1⟩
  case round =>
    obtain ⟨k, hk, rfl, HB, HS⟩ := hrel
    by_cases hlt : k < s.length
    · obtain ⟨x, hx⟩ : ∃ x, s[k]? = some x := ⟨_, List.getElem?_eq_getElem hlt⟩
      obtain ⟨_, _, e, _, _, hat⟩ := id (H.out.2 _ HS.out)
      obtain ⟨g, off, e2, d0, d1⟩ := hat k x hx
      simp only [Value.slice.injEq] at e
      obtain ⟨rfl, -, rfl⟩ := e
      subst e2
      have ed : s.drop k = x :: s.drop (k + 1) := by
        have ek := (List.getElem?_eq_some_iff.1 hx).2
        rw [← ek]
        exact List.drop_eq_getElem_cons hlt
      have HE : Hid (hasB s n = (inR x n || hasB (s.drop (k + 1)) n)) := Lib.hid (by rw [HB.out, ed, hasB_cons])
      clear hat hx ed
      by_cases h1 : x.1 ≤ n
      · have b1 : decide (x.1 ≤ n) = true := decide_eq_true h1
        by_cases h2 : n ≤ x.2
        · have b2 : decide (n ≤ x.2) = true := decide_eq_true h2
          have HQ : Hid (hasB s n = true) := Lib.hid (by rw [HE.out, inR_eq.2 ⟨h1, h2⟩]; rfl)
          clear h1 h2
          go_wp2
          go_ret
          rw [HQ.out]
          exact ⟨rfl, HS.out⟩
        · have b2 : decide (n ≤ x.2) = false := decide_eq_false h2
          have HQ : Hid (hasB s n = hasB (s.drop (k + 1)) n) := Lib.hid (by rw [HE.out, inR_false (.inr (by omega))]; rfl)
          clear h1 h2
          go_wp2
          exact ⟨⟨k + 1, by omega, by go_num, HQ, HS⟩, by simp only [intOf]; omega⟩
      · have b1 : decide (x.1 ≤ n) = false := decide_eq_false h1
        have HQ : Hid (hasB s n = hasB (s.drop (k + 1)) n) := Lib.hid (by rw [HE.out, inR_false (.inl (by omega))]; rfl)
        clear h1
        go_wp2
        exact ⟨⟨k + 1, by omega, by go_num, HQ, HS⟩, by simp only [intOf]; omega⟩
    · have HQ : Hid (hasB s n = false) := Lib.hid (by rw [HB.out, List.drop_of_length_le (by omega)]; rfl)
      go_wp2
      go_ret
      rw [HQ.out]
      exact ⟨rfl, HS.out⟩
end Go.Proofs.Ytkidoggmlafkgaa.Span
