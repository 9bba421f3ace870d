/- The walks of slices.IndexFunc, ContainsFunc at ranges; spans.Has, Right; the reference's Has. -/
import Derived.Test.YtkidoggmlafkgaaSpB
import Derived.Shelf.Abstract
namespace Go.Proofs.Ytkidoggmlafkgaa.Span
open Go.RowKit Go.Proofs.Ytkidoggmlafkgaa.Sep
variable {B : Nat} {w0 w : World} {R : HP}

def agg2 (r : Rg) : Value := .agg #[.int .i64 r.1, .int .i64 r.2]
def badR (r : Rg) : Bool := decide (r.2 < r.1)
/-- A closure that tells of a range, and leaves what is there. -/
def Tells (B : Nat) (w0 : World) (R : HP) (g : Nat) (lb : Array Value) (p : Rg → Bool) : Prop :=
  ∀ (W : World) (r : Rg), St B w0 W R → Calls Try.prog g (#[agg2 r] ++ lb) W fun e w' => e = .returned (.bool (p r)) ∧ St B w0 w' R

theorem bad_tells : Tells B w0 R 38 #[] badR := by
  intro W r h
  have H := Lib.hid h
  clear h
  show Calls Try.prog 38 #[.agg #[.int .i64 r.1, .int .i64 r.2]] W _
  go_enter Try.func38, Try.ntmps38
  go_wp2
  go_ret
  exact ⟨rfl, (H.out.alloc _).drop⟩
theorem has_tells (c : Nat) (n : Int) (hc : ∀ W, St B w0 W R → W.cell? ⟨c, 0, none⟩ = some (.int .i64 n)) : Tells B w0 R 44 #[.pointer (some ⟨c, 0, none⟩)] (inR · n) := by
  intro W r h
  have H := Lib.hid h
  have h0 := hc _ (h.alloc (.cells #[.int .i64 r.1, .int .i64 r.2] 32)).drop
  clear h hc
  show Calls Try.prog 44 #[.agg #[.int .i64 r.1, .int .i64 r.2], .pointer (some ⟨c, 0, none⟩)] W fun e w' => e = .returned (.bool (inR r n)) ∧ St B w0 w' R
  by_cases h1 : r.1 ≤ n
  · have d : decide (r.1 ≤ n) = true := decide_eq_true h1
    have e : inR r n = decide (n ≤ r.2) := by unfold inR; rw [d]; simp
    rw [e]
    go_enter Try.func44, Try.ntmps44
    go_wp2
    go_ret
    exact ⟨rfl, (H.out.alloc _).drop⟩
  · have d : decide (r.1 ≤ n) = false := decide_eq_false h1
    have e : inR r n = false := by unfold inR; rw [d]; simp
    rw [e]
    go_enter Try.func44, Try.ntmps44
    go_wp2
    go_ret
    exact ⟨rfl, (H.out.alloc _).drop⟩

set_option maxHeartbeats 800000 in
theorem index_calls (g : Nat) (lb : Array Value) (eg : ∀ args w, (callFunc g args).run Try.prog w = .ok (.enter g args) w) (p : Rg → Bool) (v : Value) (s : List Rg) (h : St B w0 w R) (ha : ∀ W, St B w0 W R → R2 W v s) (hp : Tells B w0 R g lb p) :
    Calls Try.prog 52 #[v, .func (.func g) #[] lb] w fun e w' => ∃ i : Int, e = .returned (.int .i64 i) ∧ St B w0 w' R ∧
      ((∃ (k : Nat) (r : Rg), i = k ∧ s[k]? = some r ∧ p r = true ∧ ∀ x ∈ s.take k, p x = false) ∨ (i = -1 ∧ ∀ x ∈ s, p x = false)) := by
  have H := Lib.hid (And.intro h (And.intro ha hp))
  obtain ⟨A, c, rfl, hc, hcm, -⟩ := ha w h
  simp only [maxLen] at hcm
  have hl : s.length ≤ 9223372036854775807 := by omega
  clear h ha hp hc hcm
  go_enter Try.func52, Try.ntmps52
  go_wp2
  go_loopw [5, 8] (fun _ i wr => ∃ k : Nat, k ≤ s.length ∧ i = .int .i64 k ∧ Hid (St B w0 wr R) ∧ Hid (∀ x ∈ s.take k, p x = false)) (fun _ i _ => s.length - (intOf i).toNat)
  case atStart => exact ⟨0, Nat.zero_le _, rfl, Lib.hid H.out.1, Lib.hid (by simp)⟩
  case round =>
    obtain ⟨k, hk, rfl, HS, HN⟩ := hrel
    by_cases hlt : k < s.length
    · obtain ⟨r, hr⟩ : ∃ r, s[k]? = some r := ⟨_, List.getElem?_eq_getElem hlt⟩
      obtain ⟨_, _, e, _, _, hat⟩ := id (H.out.2.1 wr HS.out)
      obtain ⟨b, off, e2, d0, d1⟩ := hat k r hr
      simp only [Value.slice.injEq] at e
      obtain ⟨rfl, -, rfl⟩ := e
      subst e2
      have hcall := H.out.2.2 wr r HS.out
      have HR := Lib.hid hr
      clear hat hr
      cases hq : p r with
      | true =>
        rw [hq] at hcall
        go_wp2_with (go_at_fn g; refine hcall.mono ?_; rintro e w' ⟨rfl, hb'⟩)
        go_ret
        exact ⟨k, rfl, hb', .inl ⟨k, r, rfl, HR.out, hq, HN.out⟩⟩
      | false =>
        rw [hq] at hcall
        go_wp2_with (go_at_fn g; refine hcall.mono ?_; rintro e w' ⟨rfl, hb'⟩)
        refine ⟨⟨k + 1, by omega, by go_num, Lib.hid hb', Lib.hid ?_⟩, by simp only [intOf]; omega⟩
        intro x hx
        rw [List.take_add_one, HR.out] at hx
        rcases List.mem_append.1 hx with hx | hx
        · exact HN.out x hx
        · simp at hx
          rw [hx]; exact hq
    · go_wp2
      go_ret
      exact ⟨_, rfl, HS.out, .inr ⟨rfl, by have h := HN.out; rwa [List.take_of_length_le (by omega)] at h⟩⟩
theorem contains_calls (g : Nat) (lb : Array Value) (eg : ∀ args w, (callFunc g args).run Try.prog w = .ok (.enter g args) w) (p : Rg → Bool) (v : Value) (s : List Rg) (h : St B w0 w R) (ha : ∀ W, St B w0 W R → R2 W v s) (hp : Tells B w0 R g lb p) :
    Calls Try.prog 43 #[v, .func (.func g) #[] lb] w fun e w' => e = .returned (.bool (s.any p)) ∧ St B w0 w' R := by
  have hi := index_calls g lb eg p v s h ha hp
  clear h ha hp
  go_enter Try.func43, Try.ntmps43
  go_wp2_with fail
  refine hi.mono ?_
  rintro e w' ⟨i, rfl, h2, h3⟩
  have H2 := Lib.hid h2
  rcases h3 with ⟨k, r, rfl, hr, hpr, -⟩ | ⟨rfl, hn⟩
  · have e1 : s.any p = true := List.any_eq_true.2 ⟨r, List.mem_of_getElem? hr, hpr⟩
    go_wp2
    go_ret
    rw [e1]
    exact ⟨rfl, H2.out⟩
  · have e1 : s.any p = false := List.any_eq_false.2 fun x hx => by rw [hn x hx]; simp
    go_wp2
    go_ret
    rw [e1]
    exact ⟨rfl, H2.out⟩
theorem has_calls (v : Value) (s : List Rg) (n : Int) (h : St B w0 w R) (ha : ∀ W, St B w0 W R → R2 W v s) :
    Calls Try.prog 19 #[v, .int .i64 n] w fun e w' => e = .returned (.bool (hasB s n)) ∧ St B w0 w' R := by
  have eg : ∀ args w, (callFunc 44 args).run Try.prog w = .ok (.enter 44 args) w := enters_of Try.func44 (by kernel_rfl) rfl
  have H := Lib.hid (And.intro (h.alloc (.cells #[.int .i64 n] 3)) ha)
  clear h ha
  go_enter Try.func19, Try.ntmps19
  go_wp2_with fail
  refine (contains_calls _ _ eg (inR · n) v s H.out.1 (fun W hW => H.out.2 W hW.drop) (has_tells _ n fun W hW => hW.cell 0 rfl)).mono ?_
  rintro e w' ⟨rfl, h2⟩
  have H2 := Lib.hid h2.drop
  clear h2
  go_wp2
  go_ret
  exact ⟨rfl, H2.out⟩
end Go.Proofs.Ytkidoggmlafkgaa.Span
