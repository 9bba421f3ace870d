/- Constraints in memory; the walks of bounds.span, all, Set and Ends. -/
import Derived.Test.YtkidoggmlafkgaaBdM
import Derived.Test.YtkidoggmlafkgaaSpV
import Derived.Test.YtkidoggmlafkgaaRg
import Derived.Test.YtkidoggmlafkgaaSpW
import Derived.IntWalk
/- Constraints in memory: what a list of them reads as; a parameter that is one. -/
namespace Go.Proofs.Ytkidoggmlafkgaa.Bd
open Go.RowKit Go.ChangeShapes Go.WideShapes Go.Proofs.Ytkidoggmlafkgaa.Open Go.Proofs.Ytkidoggmlafkgaa.Sep Go.Proofs.Ytkidoggmlafkgaa.Span Go.Proofs.YtkidoggmlafkgaaW.PrintWords

/-- What the address of a list of constraints leads to. -/
def RC (W : World) (A : Option Addr) (l : List Con) : Prop := Kd.C PIn.k36 W A l.length l
/-- The value of a constraint. -/
abbrev aggC (c : Con) (A : Option Addr) (cap : Nat) : Value := .agg #[.int .i64 c.f0, .int .i64 c.f1, .int .i64 c.f2, .bool c.f3, .bool c.f4, .slice A c.f5.length cap]
theorem RC.below {W W' : World} {A : Option Addr} {l : List Con} (h : RC W A l) (hb : Below W.heap.size W W') : RC W' A l := Kd.C_below h hb
theorem RC.nil (W : World) (A : Option Addr) : RC W A [] := ⟨rfl, by simp, fun h => absurd h (by simp)⟩
theorem RC.at {W : World} {A : Option Addr} {l : List Con} {k : Nat} {c : Con} (h : RC W A l) (hk : l[k]? = some c) :
    ∃ g off A5 c5, A = some ⟨g, off, none⟩ ∧ W.cell? ⟨g, off + k * 6, none⟩ = some (.int .i64 c.f0) ∧ W.cell? ⟨g, off + k * 6 + 1, none⟩ = some (.int .i64 c.f1) ∧ W.cell? ⟨g, off + k * 6 + 2, none⟩ = some (.int .i64 c.f2) ∧
      W.cell? ⟨g, off + k * 6 + 3, none⟩ = some (.bool c.f3) ∧ W.cell? ⟨g, off + k * 6 + 4, none⟩ = some (.bool c.f4) ∧ W.cell? ⟨g, off + k * 6 + 5, none⟩ = some (.slice A5 c.f5.length c5) ∧ c.f5.length ≤ c5 ∧ RC W A5 c.f5 := by
  have hlt : k < l.length := (List.getElem?_eq_some_iff.1 hk).1
  obtain ⟨ad, rfl, hc⟩ := h.2.2 (by omega)
  obtain ⟨cs0, hl0, hK0, hc0⟩ := hc 0 l[0] (List.getElem?_eq_getElem (by omega))
  obtain ⟨_, _, rfl, _⟩ := PIn.k36_open hK0
  have hsp := cell_spot (hc0 0 _ rfl)
  have hsz : PIn.k36.sz = 6 := rfl
  rw [hsz] at hc
  obtain ⟨g, off, sp⟩ := ad
  have : sp = none := by simpa using add_spot hsp (.inl rfl)
  subst this
  obtain ⟨cs, hl, hK, hcell⟩ := hc k c hk
  obtain ⟨A5, c5, rfl, h5, h6⟩ := PIn.k36_open hK
  refine ⟨g, off, A5, c5, rfl, ?_, ?_, ?_, ?_, ?_, ?_, h5, h6⟩
  · have := hcell 0 _ rfl; rwa [Open.add_at] at this
  · have := hcell 1 _ rfl; rwa [Open.add_at] at this
  · have := hcell 2 _ rfl; rwa [Open.add_at] at this
  · have := hcell 3 _ rfl; rwa [Open.add_at] at this
  · have := hcell 4 _ rfl; rwa [Open.add_at] at this
  · have := hcell 5 _ rfl; rwa [Open.add_at] at this

instance : Inhabited Con := ⟨PIn.z36⟩
def ConK (W : World) (cs : List Value) (c : Con) : Prop := PIn.k36.K W c cs ∧ ∀ d, okD d c
theorem rc_of_slice {W : World} {A : Option Addr} {n cap : Nat} {l : List Con} (h : SliceOf ConK 6 W (.slice A n cap) l) : n = l.length ∧ l.length ≤ cap ∧ cap ≤ maxLen ∧ RC W A l ∧ ∀ c ∈ l, ∀ d, okD d c := by
  obtain ⟨A', c', h1, h2, h3, h4⟩ := h
  simp only [Value.slice.injEq] at h1
  obtain ⟨rfl, rfl, rfl⟩ := h1
  refine ⟨rfl, h2, h3, ⟨rfl, by simp only [maxLen] at h3; omega, fun hn => ?_⟩, fun c hc => ?_⟩
  · obtain ⟨g, off, _, rfl, _⟩ := h4 0 _ (List.getElem?_eq_getElem hn)
    refine ⟨_, rfl, fun j p hp => ?_⟩
    obtain ⟨g', off', cs, e, h5, h6, h7, _⟩ := h4 j p hp
    simp only [Option.some.injEq, Addr.mk.injEq, and_true] at e
    obtain ⟨rfl, rfl⟩ := e
    refine ⟨cs, h5, h7, fun i u hu => ?_⟩
    rw [Open.add_at]
    have := h6 i u hu
    rwa [Nat.add_assoc] at this
  · obtain ⟨k, hk⟩ := List.getElem?_of_mem hc
    obtain ⟨_, _, _, _, _, _, _, h8⟩ := h4 k c hk
    exact h8
theorem open_con {H : Type} {enc : TypeId × Value → H} {W : World} {base : Nat} {spare : Nat → Bool} {held : Bool} (fuel : Nat) : ∀ (cs : List Value) (x : DataW H × List MemPlace), cs.length = 6 →
    DataW.trod enc Try.prog W base spare held fuel 36 cs = some x → ∃ c, ConK W cs c := by
  induction fuel using Nat.strongRecOn with
  | ind fuel ih =>
    intro cs x hl hx
    obtain ⟨xs, m, hm, _, _, hxl, hx⟩ := DataW.trod_struct Try.underlying36 hx
    match cs, hl with
    | [c0, c1, c2, c3, c4, c5], _ =>
      obtain ⟨y0, h0⟩ := open_field hx hxl 0 _ rfl rfl (n := 1) (by kernel_rfl)
      obtain ⟨y1, h1⟩ := open_field hx hxl 1 _ rfl rfl (n := 1) (by kernel_rfl)
      obtain ⟨y2, h2⟩ := open_field hx hxl 2 _ rfl rfl (n := 1) (by kernel_rfl)
      obtain ⟨y3, h3⟩ := open_field hx hxl 3 _ rfl rfl (n := 1) (by kernel_rfl)
      obtain ⟨y4, h4⟩ := open_field hx hxl 4 _ rfl rfl (n := 1) (by kernel_rfl)
      obtain ⟨y5, h5⟩ := open_field hx hxl 5 _ rfl rfl (n := 1) (by kernel_rfl)
      obtain ⟨n0, e0, -, w0⟩ := DataW.trod_int Try.underlying3 h0
      obtain ⟨n1, e1, -, w1⟩ := DataW.trod_int Try.underlying3 h1
      obtain ⟨n2, e2, -, w2⟩ := DataW.trod_int Try.underlying3 h2
      obtain ⟨n3, e3, -⟩ := DataW.trod_bool Try.underlying4 h3
      obtain ⟨n4, e4, -⟩ := DataW.trod_bool Try.underlying4 h4
      obtain ⟨l, hL⟩ := open_list (K := ConK) (size := 6) Try.underlying34 (by kernel_rfl) (by decide) (fun n hn cs y hl hy => ih n (by omega) cs y hl hy) (v := c5) h5
      have e0' : c0 = .int .i64 n0 := by simpa using e0
      have e1' : c1 = .int .i64 n1 := by simpa using e1
      have e2' : c2 = .int .i64 n2 := by simpa using e2
      have e3' : c3 = .bool n3 := by simpa using e3
      have e4' : c4 = .bool n4 := by simpa using e4
      subst e0' e1' e2' e3' e4'
      obtain ⟨A, cap, rfl, -⟩ := id hL
      obtain ⟨-, h6, -, h7, h8⟩ := rc_of_slice hL
      refine ⟨⟨n0, n1, n2, n3, n4, l⟩, PIn.k36_mk W ⟨n0, n1, n2, n3, n4, l⟩ h6 h7, fun d => ?_⟩
      cases d with
      | zero => trivial
      | succ d =>
        have a1 := wf_i64 w1
        have a2 := wf_i64 w2
        exact ⟨⟨a1.1, a1.2, a2.1, a2.2⟩, fun x hx => h8 x hx d⟩
/-- A parameter that is a constraint. -/
theorem open_conP {H : Type} {enc : TypeId × Value → H} {W : World} {base base' : Nat} {spare : Nat → Bool} {held : Bool} {v : Value} {d : DataW H} {p : List MemPlace}
    (hv : Value.okWide Try.prog W .any base' 36 v) (h : DataW.Trod enc Try.prog W base spare held 36 v d p) : ∃ c A cap, v = aggC c A cap ∧ c.f5.length ≤ cap ∧ RC W A c.f5 ∧ ∀ d, okD d c := by
  obtain ⟨cs, rfl, hsz⟩ := okWide_struct Try.underlying36 hv
  obtain ⟨fuel, hf⟩ := h
  have hf' : DataW.trod enc Try.prog W base spare held fuel 36 cs.toList = some (d, p) := hf
  have hl : cs.toList.length = 6 := by rw [Array.length_toList, hsz]; kernel_rfl
  obtain ⟨c, hK, hd⟩ := open_con fuel _ _ hl hf'
  obtain ⟨A, cap, e, h1, h2⟩ := PIn.k36_open hK
  refine ⟨c, A, cap, ?_, h1, h2, hd⟩
  have : cs = #[.int .i64 c.f0, .int .i64 c.f1, .int .i64 c.f2, .bool c.f3, .bool c.f4, .slice A c.f5.length cap] := by
    rw [← Array.toArray_toList (xs := cs), e]
  rw [this]
end Go.Proofs.Ytkidoggmlafkgaa.Bd

/- The walks of bounds.span and of what all hands on. -/
namespace Go.Proofs.Ytkidoggmlafkgaa.Bd
open Go.RowKit Go.Proofs.Ytkidoggmlafkgaa.Sep Go.Proofs.Ytkidoggmlafkgaa.Span
variable {B : Nat} {w0 w : World} {R : HP}

def spanR (c : Con) : Rg := (if c.f3 then minI else c.f1, if c.f4 then maxI else c.f2)
theorem span_has (c : Con) (n : Int) (h1 : minI ≤ n) (h2 : n ≤ maxI) : hasB [spanR c] n = leafB c n := by
  unfold spanR leafB
  rw [hasB_cons, hasB_nil, Bool.or_false]
  unfold inR
  cases c.f3 <;> cases c.f4 <;> simp <;> omega
theorem span_ok {d : Nat} {c : Con} (h : okD (d + 1) c) : okR (spanR c) := by
  obtain ⟨h1, _⟩ := h
  have hm : minI ≤ maxI := by decide
  unfold spanR okR at *
  simp only at h1 ⊢
  cases c.f3 <;> cases c.f4 <;> simp <;> omega

set_option maxHeartbeats 1000000 in
theorem span_calls (op lo hi : Int) (low high : Bool) (A : Value) (h : St B w0 w R) :
    Calls Try.prog 59 #[.agg #[.int .i64 op, .int .i64 lo, .int .i64 hi, .bool low, .bool high, A]] w fun e w' => ∃ v', e = .returned v' ∧ St B w0 w' (Row2 v' [(if low then minI else lo, if high then maxI else hi)] • R) := by
  have H := Lib.hid (h.alloc (.cells #[.int .i64 op, .int .i64 lo, .int .i64 hi, .bool low, .bool high, A] 36))
  clear h
  cases low <;> cases high <;> (
    go_enter Try.func59, Try.ntmps59
    go_wp2_with fail
    refine (whole_calls H.out).mono ?_
    rintro e w1 ⟨v1, rfl, h1⟩
    obtain ⟨_, c1, e1, _, _, hat⟩ := St.r2 h1
    obtain ⟨g, off, e2, d0, d1⟩ := hat 0 _ rfl
    subst e2 e1
    simp only [Nat.zero_mul, Nat.add_zero] at d0 d1
    have H1 := Lib.hid h1
    have b1 : ∀ o, (w1.alloc o).cell? ⟨w.heap.size, 1, none⟩ = _ := fun o => (h1.alloc o).three.cell 1 rfl
    have b2 : ∀ o, (w1.alloc o).cell? ⟨w.heap.size, 2, none⟩ = _ := fun o => (h1.alloc o).three.cell 2 rfl
    have b3 : ∀ o, (w1.alloc o).cell? ⟨w.heap.size, 3, none⟩ = _ := fun o => (h1.alloc o).three.cell 3 rfl
    have b4 : ∀ o, (w1.alloc o).cell? ⟨w.heap.size, 4, none⟩ = _ := fun o => (h1.alloc o).three.cell 4 rfl
    clear h1 hat
    go_wp2
    go_ret
    exact ⟨_, rfl, (lit [(_, _)] (alloc_at (n := w1.heap.size + 1) (H1.out.alloc _) _ (by simp)) rfl (by simp)).drop2.drop2.drop2⟩)

/-- A function that puts two sets together, so that the answer has no more ranges than both. -/
def Takes (g : Nat) (comb : Bool → Bool → Bool) : Prop :=
  (∀ args w, (callFunc g args).run Try.prog w = .ok (.enter g args) w) ∧
  ∀ (B : Nat) (w0 w : World) (R : HP) (va vb : Value) (a b : List Rg), St B w0 w R → (∀ W, St B w0 W R → R2 W va a) → (∀ W, St B w0 W R → R2 W vb b) → a.length ≤ 2000 → b.length ≤ 2000 → (∀ r ∈ a, okR r) → (∀ r ∈ b, okR r) →
    Calls Try.prog g #[va, vb] w fun e w' => ∃ v' u, e = .returned v' ∧ (∀ n, hasB u n = comb (hasB a n) (hasB b n)) ∧ u.length ≤ a.length + b.length ∧ (∀ r ∈ u, okR r) ∧ St B w0 w' (Row2 v' u • R)
theorem takes_union : Takes 21 (· || ·) := by
  refine ⟨enters_of Try.func21 (by kernel_rfl) rfl, ?_⟩
  intro B w0 w R va vb a b h ha hb hla hlb hoa hob
  refine (union_calls va vb a b h ha hb (by omega) (by omega) hoa hob).mono ?_
  rintro e w' ⟨v', u, rfl, _, h2, h3, h4, h5⟩
  exact ⟨v', u, rfl, h2, h3, h4, h5⟩
theorem takes_meet : Takes 23 (· && ·) := by
  refine ⟨enters_of Try.func23 (by kernel_rfl) rfl, ?_⟩
  intro B w0 w R va vb a b h ha hb hla hlb hoa hob
  have hm : a.length * b.length ≤ 2000 * 2000 := Nat.mul_le_mul hla hlb
  refine (meet_calls va vb a b h ha hb (by omega) hoa hob).mono ?_
  rintro e w' ⟨v', u, rfl, h1, h2, _, h4, h5⟩
  exact ⟨v', u, rfl, h2, meet_length h1 h2, h4, h5⟩
theorem takes_minus : Takes 25 (fun x y => x && !y) := by
  refine ⟨enters_of Try.func25 (by kernel_rfl) rfl, ?_⟩
  intro B w0 w R va vb a b h ha hb hla hlb hoa hob
  have hm : a.length * (b.length + 1) ≤ 2000 * 2001 := Nat.mul_le_mul hla (by omega)
  refine (minus_calls va vb a b h ha hb (by omega) (by omega) hoa hob).mono ?_
  rintro e w' ⟨v', u, rfl, h1, h2, _, h4, h5⟩
  exact ⟨v', u, rfl, h2, minus_length h1 h2, h4, h5⟩

/-- What bounds.all answers with so much room. -/
def AllAt (room : Nat) : Prop := ∀ (w0 w : World) (R : HP) (c : Con) (A : Option Addr) (cap : Nat), St w0.heap.size w0 w R → RC w0 A c.f5 → c.f5.length ≤ cap → okD room c → sizeC c ≤ 1000 →
  Calls Try.prog 49 #[.agg #[.int .i64 c.f0, .int .i64 c.f1, .int .i64 c.f2, .bool c.f3, .bool c.f4, .slice A c.f5.length cap], .int .i64 room] w fun e w' =>
    ∃ v' u, e = .returned v' ∧ (∀ n, minI ≤ n → n ≤ maxI → hasB u n = inB room c n) ∧ u.length ≤ sizeC c ∧ (∀ r ∈ u, okR r) ∧ ∃ Y : HP, St w0.heap.size w0 w' (Y • R) ∧ ∀ W, St w0.heap.size w0 W (Y • R) → R2 W v' u
theorem r2_nil (W : World) : R2 W (.slice none 0 0) [] := ⟨none, 0, rfl, Nat.le_refl _, Nat.zero_le _, fun k r h => by simp at h⟩

set_option maxHeartbeats 2000000 in
theorem each_calls (room : Nat) (hroom : room ≤ 100) (ALL : AllAt room) (g : Nat) (comb : Bool → Bool → Bool) (hg : Takes g comb) (v0 : Value) (s : List Rg) (A : Option Addr) (cap : Nat) (l : List Con) (rb : Nat)
    (h : St w0.heap.size w0 w R) (hv : ∀ W, St w0.heap.size w0 W R → R2 W v0 s) (hrb : ∀ W, St w0.heap.size w0 W R → W.cell? ⟨rb, 0, none⟩ = some (.int .i64 ((room : Int) + 1))) (hl : RC w0 A l) (hok : ∀ c ∈ l, okD room c) (hsz : s.length + sizeL l ≤ 1000) (hos : ∀ r ∈ s, okR r) :
    Calls Try.prog 58 #[v0, .slice A l.length cap, .func (.func g) #[] #[], .pointer (some ⟨rb, 0, none⟩)] w fun e w' =>
      ∃ v' u, e = .returned v' ∧ (∀ n, minI ≤ n → n ≤ maxI → hasB u n = (l.map (inB room · n)).foldl comb (hasB s n)) ∧ u.length ≤ s.length + sizeL l ∧ (∀ r ∈ u, okR r) ∧ ∃ Y : HP, St w0.heap.size w0 w' (Y • R) ∧ ∀ W, St w0.heap.size w0 W (Y • R) → R2 W v' u := by
  obtain ⟨eg, hG⟩ := hg
  have H := Lib.hid (And.intro h (And.intro hv (And.intro hrb (And.intro hl (And.intro hok hos)))))
  have HG := Lib.hid (And.intro hG ALL)
  have hll : l.length ≤ 1000 := by have := sizeL_length l; omega
  clear h hv hrb hl hok hos hG ALL
  go_enter Try.func58, Try.ntmps58
  go_wp2
  go_loopw [0, 12] (fun v i wr => ∃ (k : Nat) (u : List Rg) (Y : HP), k ≤ l.length ∧ i = .int .i64 k ∧ u.length + sizeL (l.drop k) ≤ s.length + sizeL l ∧
    Hid ((∀ n, minI ≤ n → n ≤ maxI → hasB u n = ((l.take k).map (inB room · n)).foldl comb (hasB s n)) ∧ (∀ r ∈ u, okR r)) ∧ Hid (St w0.heap.size w0 wr (Y • R) ∧ ∀ W, St w0.heap.size w0 W (Y • R) → R2 W v u)) (fun _ i _ => l.length - (intOf i).toNat)
  case atStart => exact ⟨0, s, emp, Nat.zero_le _, rfl, by simp, Lib.hid ⟨fun n _ _ => rfl, H.out.2.2.2.2.2⟩, Lib.hid ⟨H.out.1.pad.swap, fun W hW => H.out.2.1 W hW.drop⟩⟩
  case round =>
    obtain ⟨k, u, Y, hk, rfl, hlen, HU, HS⟩ := hrel
    by_cases hlt : k < l.length
    · obtain ⟨c, hc⟩ : ∃ c, l[k]? = some c := ⟨_, List.getElem?_eq_getElem hlt⟩
      obtain ⟨gb, off, A5, c5, rfl, q0, q1, q2, q3, q4, q5, hc5, hr5⟩ := H.out.2.2.2.1.at hc
      have d0 := cell_of_below HS.out.1.below q0
      have d1 := cell_of_below HS.out.1.below q1
      have d2 := cell_of_below HS.out.1.below q2
      have d3 := cell_of_below HS.out.1.below q3
      have d4 := cell_of_below HS.out.1.below q4
      have d5 := cell_of_below HS.out.1.below q5
      have hsd := sizeL_drop hc
      have HC := Lib.hid (And.intro hc (H.out.2.2.2.2.1 c (List.mem_of_getElem? hc)))
      have HA := Lib.hid (HS.out.1.alloc (.cells #[.int .i64 c.f0, .int .i64 c.f1, .int .i64 c.f2, .bool c.f3, .bool c.f4, .slice A5 c.f5.length c5] 36))
      have hr0 := H.out.2.2.1 _ HA.out.drop.drop
      have H5 := Lib.hid (And.intro hc5 hr5)
      clear hc hc5 hr5 q0 q1 q2 q3 q4 q5
      go_wp2_with fail
      refine (HG.out.2 w0 _ _ c A5 c5 HA.out H5.out.2 H5.out.1 HC.out.2 (by omega)).mono ?_
      rintro e w1 ⟨v1, u1, rfl, k1, k2, k3, Y1, hst, hrd⟩
      have hcall := HG.out.1 w0.heap.size w0 _ _ u0 v1 u u1 hst (fun W hW => HS.out.2 W hW.drop.drop) hrd (by omega) (by omega) HU.out.2 k3
      have HCL := Lib.hid hcall
      have HK := Lib.hid (And.intro k1 (And.intro k2 k3))
      clear hcall k1 k3 hst hrd d0 d1 d2 d3 d4 d5 hr0
      go_wp2_with (go_at_fn g; refine HCL.out.mono ?_; rintro e w2 ⟨v2, u2, rfl, m1, m2, m3, m4⟩)
      have hlen2 : u2.length + sizeL (l.drop (k + 1)) ≤ s.length + sizeL l := by have := HK.out.2.1; omega
      have HN : Hid ((∀ n, minI ≤ n → n ≤ maxI → hasB u2 n = ((l.take (k + 1)).map (inB room · n)).foldl comb (hasB s n)) ∧ (∀ r ∈ u2, okR r)) := Lib.hid ⟨fun n h1 h2 => by
        rw [m1, HU.out.1 n h1 h2, HK.out.1 n h1 h2, List.take_add_one, HC.out.1, List.map_append, List.foldl_append]
        rfl, m3⟩
      have HS2 : Hid (St w0.heap.size w0 w2 (Row2 v2 u2 • R) ∧ ∀ W, St w0.heap.size w0 W (Row2 v2 u2 • R) → R2 W v2 u2) := Lib.hid ⟨m4.drop2.drop2.drop2, fun W hW => St.r2 hW⟩
      clear m1 m3 m4
      go_wp2
      exact ⟨⟨k + 1, u2, Row2 v2 u2, by omega, by go_num, hlen2, HN, HS2⟩, by simp only [intOf]; omega⟩
    · obtain rfl : k = l.length := by omega
      have HE : Hid ((∀ n, minI ≤ n → n ≤ maxI → hasB u n = (l.map (inB room · n)).foldl comb (hasB s n)) ∧ (∀ r ∈ u, okR r)) := Lib.hid ⟨fun n h1 h2 => by
        rw [HU.out.1 n h1 h2, List.take_length], HU.out.2⟩
      go_wp2
      go_ret
      exact ⟨_, u, rfl, HE.out.1, by omega, HE.out.2, Y, HS.out.1, HS.out.2⟩
end Go.Proofs.Ytkidoggmlafkgaa.Bd

/- The walk of bounds.all. -/
namespace Go.Proofs.Ytkidoggmlafkgaa.Bd
open Go.RowKit Go.Proofs.Ytkidoggmlafkgaa.Sep Go.Proofs.Ytkidoggmlafkgaa.Span Go.Proofs.YtkidoggmlafkgaaW.PrintWords
variable {w0 w : World} {R : HP}

theorem foldl_or (l : List Bool) (b : Bool) : l.foldl (· || ·) b = (b || l.any id) := by
  induction l generalizing b with
  | nil => simp
  | cons x l ih => rw [List.foldl_cons, ih]; simp [Bool.or_assoc]
theorem foldl_and (l : List Bool) (b : Bool) : l.foldl (· && ·) b = (b && l.all id) := by
  induction l generalizing b with
  | nil => simp
  | cons x l ih => rw [List.foldl_cons, ih]; simp [Bool.and_assoc]
theorem foldl_not (l : List Bool) (b : Bool) : l.foldl (fun x y => x && !y) b = (b && l.all (!·)) := by
  induction l generalizing b with
  | nil => simp
  | cons x l ih => rw [List.foldl_cons, ih]; simp [Bool.and_assoc]
/-- What all answers, as one word. -/
def AllPost (w0 : World) (R : HP) (room : Nat) (c : Con) (e : Ending) (w' : World) : Prop :=
  ∃ v' u, e = .returned v' ∧ (∀ n, minI ≤ n → n ≤ maxI → hasB u n = inB room c n) ∧ u.length ≤ sizeC c ∧ (∀ r ∈ u, okR r) ∧ ∃ Y : HP, St w0.heap.size w0 w' (Y • R) ∧ ∀ W, St w0.heap.size w0 W (Y • R) → R2 W v' u

theorem each_nil (room : Nat) (hroom : room ≤ 100) (ALL : AllAt room) (g : Nat) (comb : Bool → Bool → Bool) (hg : Takes g comb) (v0 : Value) (s : List Rg) (A : Option Addr) (cap rb : Nat)
    (h : St w0.heap.size w0 w R) (hv : ∀ W, St w0.heap.size w0 W R → R2 W v0 s) (hrb : ∀ W, St w0.heap.size w0 W R → W.cell? ⟨rb, 0, none⟩ = some (.int .i64 ((room : Int) + 1))) (hsz : s.length ≤ 1000) (hos : ∀ r ∈ s, okR r) :
    Calls Try.prog 58 #[v0, .slice A 0 cap, .func (.func g) #[] #[], .pointer (some ⟨rb, 0, none⟩)] w fun e w' =>
      ∃ v' u, e = .returned v' ∧ (∀ n, minI ≤ n → n ≤ maxI → hasB u n = hasB s n) ∧ u.length ≤ s.length ∧ (∀ r ∈ u, okR r) ∧ ∃ Y : HP, St w0.heap.size w0 w' (Y • R) ∧ ∀ W, St w0.heap.size w0 W (Y • R) → R2 W v' u :=
  each_calls room hroom ALL g comb hg v0 s A cap [] rb h hv hrb (RC.nil _ _) (fun _ h => by cases h) (by simpa [sizeL] using hsz) hos
theorem each_one (room : Nat) (hroom : room ≤ 100) (ALL : AllAt room) (g : Nat) (comb : Bool → Bool → Bool) (hg : Takes g comb) (v0 : Value) (s : List Rg) (A : Option Addr) (x : Con) (cap rb : Nat)
    (h : St w0.heap.size w0 w R) (hv : ∀ W, St w0.heap.size w0 W R → R2 W v0 s) (hrb : ∀ W, St w0.heap.size w0 W R → W.cell? ⟨rb, 0, none⟩ = some (.int .i64 ((room : Int) + 1))) (hl : RC w0 A [x]) (hok : okD room x) (hsz : s.length + sizeC x ≤ 1000) (hos : ∀ r ∈ s, okR r) :
    Calls Try.prog 58 #[v0, .slice A 1 cap, .func (.func g) #[] #[], .pointer (some ⟨rb, 0, none⟩)] w fun e w' =>
      ∃ v' u, e = .returned v' ∧ (∀ n, minI ≤ n → n ≤ maxI → hasB u n = comb (hasB s n) (inB room x n)) ∧ u.length ≤ s.length + sizeC x ∧ (∀ r ∈ u, okR r) ∧ ∃ Y : HP, St w0.heap.size w0 w' (Y • R) ∧ ∀ W, St w0.heap.size w0 W (Y • R) → R2 W v' u :=
  each_calls room hroom ALL g comb hg v0 s A cap [x] rb h hv hrb hl (fun c hc => by simp at hc; rw [hc]; exact hok) (by simpa [sizeL] using hsz) hos

set_option maxHeartbeats 2000000 in
theorem all_zero : AllAt 0 := by
  intro w0 w R c A cap h hl hcap hok hsz
  have H := Lib.hid h
  clear h hl hcap hok
  go_enter Try.func49, Try.ntmps49
  go_wp2
  go_ret
  refine ⟨_, [], rfl, fun n _ _ => rfl, Nat.zero_le _, (fun r hr => by cases hr), emp, ?_, fun W _ => r2_nil W⟩
  exact (((H.out.alloc _).alloc _).drop.drop).pad.swap
set_option maxHeartbeats 1000000 in
theorem all_succ (room : Nat) (hroom : room ≤ 100) (ALL : AllAt room) : AllAt (room + 1) := by
  intro w0 w R c A cap h hl hcap hok hsz
  show Calls _ _ _ _ (AllPost w0 R (room + 1) c)
  have H := Lib.hid (alloc_at (n := w.heap.size + 1) (h.alloc (.cells #[.int .i64 c.f0, .int .i64 c.f1, .int .i64 c.f2, .bool c.f3, .bool c.f4, .slice A c.f5.length cap] 36)) (.cells #[.int .i64 ((room : Int) + 1)] 3) (by simp))
  have HL := Lib.hid (And.intro hl (And.intro hok.1 hok.2))
  have HO := Lib.hid hok
  have eg : ∀ args w, (callFunc 58 args).run Try.prog w = .ok (.enter 58 args) w := enters_of Try.func58 (by kernel_rfl) rfl
  have hss := sizeC_eq c
  clear h hl hok
  have hcast : ((room + 1 : Nat) : Int) = (room : Int) + 1 := rfl
  rw [hcast]
  clear hcast
  by_cases h0 : c.f0 = 0
  · have e0 : ∀ n, inB (room + 1) c n = true := fun n => by rw [inB_succ, if_pos h0]
    have HE := Lib.hid e0
    rw [h0] at H ⊢
    clear h0 e0
    go_enter Try.func49, Try.ntmps49
    go_wp2_with fail
    refine (whole_calls H.out).mono ?_
    rintro e w1 ⟨v1, rfl, h1⟩
    have H1 := Lib.hid h1
    clear h1 H
    go_wp2
    go_ret
    exact ⟨_, _, rfl, fun n h1 h2 => by rw [HE.out, has_whole n h1 h2], by simp; omega, ok_whole, _, H1.out.drop2.drop2, fun W hW => St.r2 hW⟩
  · have b0 : (c.f0 == 0) = false := by simpa using h0
    by_cases h1 : c.f0 = 1
    · have e1 : ∀ n, inB (room + 1) c n = leafB c n := fun n => by rw [inB_succ, if_neg h0, if_pos h1]
      have HE := Lib.hid e1
      rw [h1] at H ⊢
      clear h0 h1 e1 b0
      go_enter Try.func49, Try.ntmps49
      have c1 := H.out.two.cell 1 rfl
      have c2 := H.out.two.cell 2 rfl
      have c3 := H.out.two.cell 3 rfl
      have c4 := H.out.two.cell 4 rfl
      have c5 := H.out.two.cell 5 rfl
      go_wp2_with fail
      refine (span_calls _ _ _ _ _ _ H.out).mono ?_
      rintro e w1 ⟨v1, rfl, h1⟩
      have H1 := Lib.hid h1
      clear h1 c1 c2 c3 c4 c5
      go_wp2
      go_ret
      refine ⟨_, [spanR c], rfl, fun n h1 h2 => by rw [HE.out, span_has c n h1 h2], by simp; omega, fun r hr => ?_, _, H1.out.drop2.drop2, fun W hW => St.r2 hW⟩
      obtain rfl := List.mem_singleton.1 hr
      exact span_ok HO.out
    · have b1 : (c.f0 == 1) = false := by simpa using h1
      by_cases h2 : c.f0 = 2
      · have e2 : ∀ n, inB (room + 1) c n = c.f5.any (inB room · n) := fun n => by rw [inB_succ, if_neg h0, if_neg h1, if_pos h2]
        have HE := Lib.hid e2
        rw [h2] at H ⊢
        clear h0 h1 h2 e2 b0 b1
        go_enter Try.func49, Try.ntmps49
        have c5 := H.out.two.cell 5 rfl
        go_wp2_with fail
        refine (each_calls room hroom ALL _ _ takes_union (.slice none 0 0) [] A cap c.f5 (w.heap.size + 1) H.out (fun W _ => r2_nil W) (fun W hW => hW.cell 0 rfl) HL.out.1 HL.out.2.2 (by simp; omega) (fun r hr => by cases hr)).mono ?_
        rintro e w1 ⟨v1, u, rfl, m1, m2, m3, Y, m4, m5⟩
        have H1 := Lib.hid (And.intro m1 (And.intro m3 (And.intro m4 m5)))
        clear m1 m3 m4 m5 c5
        go_wp2
        go_ret
        obtain ⟨m1, m3, m4, m5⟩ := H1.out
        refine ⟨_, u, rfl, fun n h1 h2 => ?_, by simp at m2; omega, m3, _, (m4.assoc'.assoc'), fun W hW => m5 W (hW.assoc.assoc)⟩
        rw [m1 n h1 h2, foldl_or, HE.out]
        simp [hasB_nil, List.any_map]
      · have b2 : (c.f0 == 2) = false := by simpa using h2
        by_cases h3 : c.f0 = 3
        · have e3 : ∀ n, inB (room + 1) c n = c.f5.all (inB room · n) := fun n => by rw [inB_succ, if_neg h0, if_neg h1, if_neg h2, if_pos h3]
          have HE := Lib.hid e3
          rw [h3] at H ⊢
          clear h0 h1 h2 h3 e3 b0 b1 b2
          have c5 := H.out.two.cell 5 rfl
          go_enter Try.func49, Try.ntmps49
          go_wp2_with fail
          go_region_held3 (fun w' => w'.cell? ⟨w.heap.size, 5, none⟩ = some (.slice A c.f5.length cap)) (first | exact c5 | exact n4.drop.drop.drop.drop.cell 5 rfl | exact m4.drop.drop.drop.cell 5 rfl | exact h1.drop.drop.cell 5 rfl | go_keep)
            (first
              | (go_at_call 27; refine (whole_calls H.out.drew).mono ?_; rintro e w1 ⟨v1, rfl, h1⟩)
              | (go_at_call 58; refine (each_calls room hroom ALL _ _ takes_meet v1 [(minI, maxI)] A cap c.f5 (w.heap.size + 1) h1 (fun W hW => St.r2 hW) (fun W hW => hW.two.cell 0 rfl) HL.out.1 HL.out.2.2 (by simp; omega) ok_whole).mono ?_; rintro e w2 ⟨v2, u, rfl, m1, m2, m3, Y, m4, m5⟩))
          have H1 := Lib.hid (And.intro m1 (And.intro m3 (And.intro m4 m5)))
          clear m1 m3 m4 m5 h1
          go_wp2
          go_ret
          obtain ⟨m1, m3, m4, m5⟩ := H1.out
          refine ⟨_, u, rfl, fun n h1 h2 => ?_, by simp at m2; omega, m3, _, (m4.assoc'.assoc'.assoc'), fun W hW => m5 W (hW.assoc.assoc.assoc)⟩
          rw [m1 n h1 h2, foldl_and, HE.out, has_whole n h1 h2]
          simp [List.all_map]
        · have b3 : (c.f0 == 3) = false := by simpa using h3
          by_cases h4 : c.f0 = 4
          · have e4 : ∀ n, inB (room + 1) c n = exceptB (c.f5.map (inB room · n)) := fun n => by rw [inB_succ, if_neg h0, if_neg h1, if_neg h2, if_neg h3, if_pos h4]
            have HE := Lib.hid e4
            rw [h4] at H ⊢
            clear h0 h1 h2 h3 h4 e4 b0 b1 b2 b3
            cases e5 : c.f5 with
            | nil =>
              rw [e5] at H HE HL
              simp only [List.length_nil] at H ⊢
              have E5 := Lib.hid e5
              clear e5
              have c5 := H.out.two.cell 5 rfl
              have hmin : min (0 : Int) 1 = 0 := by decide
              go_enter Try.func49, Try.ntmps49
              go_wp2_with fail
              go_region_held3 (fun w' => w'.cell? ⟨w.heap.size, 5, none⟩ = some (.slice A 0 cap)) (first | exact c5 | exact n4.drop.drop.drop.drop.cell 5 rfl | exact m4.drop.drop.drop.cell 5 rfl | exact h1.drop.drop.cell 5 rfl | go_keep)
                (first
                  | (go_at_call 27; refine (whole_calls H.out.drew).mono ?_; rintro e w1 ⟨v1, rfl, h1⟩)
                  | (go_at_call 58; ((with_reducible refine (each_nil room hroom ALL 23 _ takes_meet v1 [(minI, maxI)] A cap (w.heap.size + 1) h1 (fun W hW => St.r2 hW) (fun W hW => hW.two.cell 0 rfl) (by simp) ok_whole).mono ?_); rintro e w2 ⟨v2, u, rfl, m1, m2, m3, Y, m4, m5⟩))
                  | (go_at_call 58; ((with_reducible refine (each_nil room hroom ALL 25 _ takes_minus v2 u _ _ (w.heap.size + 1) m4 m5 (fun W hW => hW.drop.two.cell 0 rfl) (by simp at m2; omega) m3).mono ?_); rintro e w3 ⟨v3, u3, rfl, n1, n2, n3, Y3, n4, n5⟩)))
              have H1 := Lib.hid (And.intro m1 (And.intro m2 (And.intro n1 (And.intro n2 (And.intro n3 (And.intro n4 n5))))))
              clear m1 m2 m3 m4 m5 n1 n2 n3 n4 n5 h1
              go_wp2
              go_ret
              obtain ⟨m1, m2, n1, n2, n3, n4, n5⟩ := H1.out
              refine ⟨_, u3, rfl, fun n h1 h2 => ?_, by simp at m2; omega, n3, _, n4.assoc'.assoc'.assoc'.assoc', fun W hW => n5 W hW.assoc.assoc.assoc.assoc⟩
              rw [n1 n h1 h2, m1 n h1 h2, HE.out, has_whole n h1 h2]
              rfl
            | cons x rest =>
              rw [e5] at H HE HL hcap
              simp only [List.length_cons] at H hcap ⊢
              have hsx : sizeC c = sizeC x + sizeL rest + 1 := by rw [sizeC_eq, e5]; rfl
              have E5 := Lib.hid (And.intro e5 hsx)
              clear e5
              have c5 := H.out.two.cell 5 rfl
              have hmin : min ((rest.length : Int) + 1) 1 = 1 := by omega
              have q1 : (1 : Int) ≤ (cap : Int) := by omega
              have q2 : (1 : Int) ≤ (rest.length : Int) + 1 := by omega
              have HT : Hid (RC w0 A [x] ∧ sizeC x + sizeL rest + 1 ≤ 1000) := Lib.hid ⟨Kd.C_take (m := 1) HL.out.1 (by simp), by have := E5.out.2; omega⟩
              by_cases hc1 : cap = 1
              · have er : rest = [] := List.eq_nil_of_length_eq_zero (by omega)
                subst hc1 er
                simp only [List.length_nil, Nat.zero_add] at H c5 ⊢
                clear hmin q1 q2 hcap
                have hmin : min (1 : Int) 1 = 1 := by decide
                go_enter Try.func49, Try.ntmps49
                go_wp2_with fail
                go_region_held3 (fun w' => w'.cell? ⟨w.heap.size, 5, none⟩ = some (.slice A 1 1)) (first | exact c5 | exact n4.drop.drop.drop.drop.cell 5 rfl | exact m4.drop.drop.drop.cell 5 rfl | exact h1.drop.drop.cell 5 rfl | go_keep)
                  (first
                    | (go_at_call 27; refine (whole_calls H.out.drew).mono ?_; rintro e w1 ⟨v1, rfl, h1⟩)
                    | (go_at_call 58; ((with_reducible refine (each_one room hroom ALL 23 _ takes_meet v1 [(minI, maxI)] A x 1 (w.heap.size + 1) h1 (fun W hW => St.r2 hW) (fun W hW => hW.two.cell 0 rfl) HT.out.1 (HL.out.2.2 x (by simp)) (by have := HT.out.2; simp; omega) ok_whole).mono ?_); rintro e w2 ⟨v2, u, rfl, m1, m2, m3, Y, m4, m5⟩))
                    | (go_at_call 58; ((with_reducible refine (each_nil room hroom ALL 25 _ takes_minus v2 u _ _ (w.heap.size + 1) m4 m5 (fun W hW => hW.drop.two.cell 0 rfl) (by have := HT.out.2; simp at m2; omega) m3).mono ?_); rintro e w3 ⟨v3, u3, rfl, n1, n2, n3, Y3, n4, n5⟩)))
                have H1 := Lib.hid (And.intro m1 (And.intro m2 (And.intro n1 (And.intro n2 (And.intro n3 (And.intro n4 n5))))))
                clear m1 m2 m3 m4 m5 n1 n2 n3 n4 n5 h1
                go_wp2
                go_ret
                obtain ⟨m1, m2, n1, n2, n3, n4, n5⟩ := H1.out
                refine ⟨_, u3, rfl, fun n h1 h2 => ?_, by have := E5.out.2; simp at m2; omega, n3, _, n4.assoc'.assoc'.assoc'.assoc', fun W hW => n5 W hW.assoc.assoc.assoc.assoc⟩
                rw [n1 n h1 h2, m1 n h1 h2, HE.out, has_whole n h1 h2]
                simp [exceptB]
              · have HD : Hid (RC w0 (A.map (fun x => { block := x.block, off := x.off + 6 })) rest) := Lib.hid (by
                  have h := Kd.C_drop (m := 1) (c := cap) HL.out.1 (by simp) (by simp; omega)
                  rw [if_neg hc1] at h
                  have e : (fun x : Addr => x.add (1 * PIn.k36.sz)) = fun x => { block := x.block, off := x.off + 6 } := by funext x; rfl
                  rw [e] at h
                  exact h)
                go_enter Try.func49, Try.ntmps49
                go_wp2_with fail
                go_region_held3 (fun w' => w'.cell? ⟨w.heap.size, 5, none⟩ = some (.slice A (rest.length + 1) cap)) (first | exact c5 | exact n4.drop.drop.drop.drop.cell 5 rfl | exact m4.drop.drop.drop.cell 5 rfl | exact h1.drop.drop.cell 5 rfl | go_keep)
                  (first
                    | (go_at_call 27; refine (whole_calls H.out.drew).mono ?_; rintro e w1 ⟨v1, rfl, h1⟩)
                    | (go_at_call 58; ((with_reducible refine (each_one room hroom ALL 23 _ takes_meet v1 [(minI, maxI)] A x cap (w.heap.size + 1) h1 (fun W hW => St.r2 hW) (fun W hW => hW.two.cell 0 rfl) HT.out.1 (HL.out.2.2 x (by simp)) (by have := HT.out.2; simp; omega) ok_whole).mono ?_); rintro e w2 ⟨v2, u, rfl, m1, m2, m3, Y, m4, m5⟩))
                    | (go_at_call 58; ((with_reducible refine (each_calls room hroom ALL 25 _ takes_minus v2 u _ (cap - 1) rest (w.heap.size + 1) m4 m5 (fun W hW => hW.drop.two.cell 0 rfl) HD.out (fun y hy => HL.out.2.2 y (List.mem_cons_of_mem _ hy)) (by have := HT.out.2; simp at m2; omega) m3).mono ?_); rintro e w3 ⟨v3, u3, rfl, n1, n2, n3, Y3, n4, n5⟩)))
                have H1 := Lib.hid (And.intro m1 (And.intro m2 (And.intro n1 (And.intro n2 (And.intro n3 (And.intro n4 n5))))))
                clear m1 m2 m3 m4 m5 n1 n2 n3 n4 n5 h1
                go_wp2
                go_ret
                obtain ⟨m1, m2, n1, n2, n3, n4, n5⟩ := H1.out
                refine ⟨_, u3, rfl, fun n h1 h2 => ?_, by have := E5.out.2; simp at m2; omega, n3, _, n4.assoc'.assoc'.assoc'.assoc', fun W hW => n5 W hW.assoc.assoc.assoc.assoc⟩
                rw [n1 n h1 h2, m1 n h1 h2, foldl_not, HE.out, has_whole n h1 h2]
                simp [exceptB, List.all_map]
          · have b4 : (c.f0 == 4) = false := by simpa using h4
            have e5 : ∀ n, inB (room + 1) c n = false := fun n => by rw [inB_succ, if_neg h0, if_neg h1, if_neg h2, if_neg h3, if_neg h4]
            have HE := Lib.hid e5
            clear h0 h1 h2 h3 h4 e5
            go_enter Try.func49, Try.ntmps49
            go_wp2
            go_ret
            exact ⟨_, [], rfl, fun n _ _ => by rw [HE.out]; rfl, Nat.zero_le _, (fun r hr => by cases hr), emp, (H.out.drop.drop).pad.swap, fun W _ => r2_nil W⟩
end Go.Proofs.Ytkidoggmlafkgaa.Bd

/- The walks of bounds.Set and Ends. -/
namespace Go.Proofs.Ytkidoggmlafkgaa.Bd
open Go.RowKit Go.Proofs.Ytkidoggmlafkgaa.Sep Go.Proofs.Ytkidoggmlafkgaa.Span Go.Proofs.YtkidoggmlafkgaaW.PrintWords
variable {B : Nat} {w0 w w1 : World} {R : HP}

theorem all_at (room : Nat) (hroom : room ≤ 101) : AllAt room := by
  induction room with
  | zero => exact all_zero
  | succ r ih => exact all_succ r (by omega) (ih (by omega))
/-- What stands above a world's end, put upon what it owned. -/
theorem St.nest {A : HP} (h1 : St B w0 w1 R) (h2 : St w1.heap.size w1 w A) : St B w0 w (A • R) := by
  obtain ⟨hb, hs, F, hF, hR⟩ := h1
  obtain ⟨hb2, hs2, G, hG, hA⟩ := h2
  refine ⟨hb.trans (hb2.mono hs), by omega, fun b => G b ∨ F b, ?_, G, F, fun b h => .inl h, fun b h => .inr h, ?_, hA, ?_⟩
  · rintro b (h | h)
    · have := hG b h; omega
    · have := hF b h; omega
  · intro b h3 h4
    have := hG b h3
    have := hF b h4
    omega
  · exact R.loc hR fun b h => hb2.block b (hF b h).2

set_option maxHeartbeats 1000000 in
theorem set_calls (c : Con) (A : Option Addr) (cap : Nat) (vp : Value) (p : List Rg) (h : St w0.heap.size w0 w R) (hl : RC w0 A c.f5) (hcap : c.f5.length ≤ cap) (hok : okD 40 c) (hsz : sizeC c ≤ 1000) (hp : ∀ W, St w0.heap.size w0 W R → R2 W vp p) (hpl : p.length ≤ 2000) (hop : ∀ r ∈ p, okR r) :
    Calls Try.prog 31 #[.agg #[.int .i64 c.f0, .int .i64 c.f1, .int .i64 c.f2, .bool c.f3, .bool c.f4, .slice A c.f5.length cap], vp] w fun e w' =>
      ∃ v' u, e = .returned v' ∧ right u ∧ (∀ n, hasB u n = (inB 40 c n && hasB p n)) ∧ u.length ≤ sizeC c + p.length ∧ (∀ r ∈ u, okR r) ∧ St w0.heap.size w0 w' (Row2 v' u • R) := by
  have H := Lib.hid (h.alloc (.cells #[.int .i64 c.f0, .int .i64 c.f1, .int .i64 c.f2, .bool c.f3, .bool c.f4, .slice A c.f5.length cap] 36))
  have HP := Lib.hid (And.intro hp (And.intro hop (And.intro hl hok)))
  clear h hp hop hl hok
  go_enter Try.func31, Try.ntmps31
  go_wp2_with fail
  refine (all_at 40 (by omega) w0 _ _ c A cap H.out HP.out.2.2.1 hcap HP.out.2.2.2 hsz).mono ?_
  rintro e w1 ⟨v1, u1, rfl, k1, k2, k3, Y1, hst, hrd⟩
  have HS := Lib.hid (And.intro hst (And.intro hrd (And.intro k1 k3)))
  clear hst hrd k1 k3
  have hm : u1.length * p.length ≤ 1000 * 2000 := Nat.mul_le_mul (by omega) hpl
  go_wp2_with fail
  refine (meet_calls v1 vp u1 p HS.out.1 HS.out.2.1 (fun W hW => HP.out.1 W hW.drop.drop) (by omega) HS.out.2.2.2 HP.out.2.1).mono ?_
  rintro e w2 ⟨v2, u, rfl, m1, m2, -, m4, m5⟩
  have HU := Lib.hid (And.intro m1 (And.intro m2 (And.intro m4 m5.drop2.drop2)))
  clear m1 m2 m4 m5
  go_wp2
  go_ret
  obtain ⟨m1, m2, m4, m5⟩ := HU.out
  have hm3 := meet_length m1 m2
  refine ⟨_, u, rfl, m1, fun n => ?_, by omega, m4, m5⟩
  rw [m2]
  by_cases hn : n < minI ∨ maxI < n
  · rw [hasB_out HP.out.2.1 hn]; simp
  · rw [HS.out.2.2.1 n (by omega) (by omega)]

theorem last_le {b : Int} {s : List Rg} {x : Rg} (h : rightFrom b (s ++ [x])) {n : Int} (hn : hasB (s ++ [x]) n = true) : n ≤ x.2 ∧ hasB (s ++ [x]) x.2 = true := by
  obtain ⟨h1, h2, h3⟩ := (rightFrom_snoc b s x).1 h
  refine ⟨?_, by rw [hasB_snoc, inR_eq.2 ⟨h3, Int.le_refl _⟩]; simp⟩
  rw [hasB_snoc, Bool.or_eq_true] at hn
  rcases hn with hn | hn
  · have hlt : ∀ (s : List Rg) (b : Int), rightFrom b s → hasB s n = true → n < endB b s := by
      intro s
      induction s with
      | nil => intro b _ h; cases h
      | cons r s ih =>
        intro b hr hh
        rw [hasB_cons, Bool.or_eq_true] at hh
        show n < endB (r.2 + 1) s
        rcases hh with hh | hh
        · have e1 := inR_eq.1 hh
          have mono : ∀ (s : List Rg) (b : Int), rightFrom b s → b ≤ endB b s := by
            intro s
            induction s with
            | nil => intro b _; exact Int.le_refl _
            | cons q s ih2 =>
              intro b hq
              have := ih2 (q.2 + 1) hq.2.2
              show b ≤ endB (q.2 + 1) s
              have h5 := hq.1
              have h6 := hq.2.1
              omega
          have := mono s (r.2 + 1) hr.2.2
          omega
        · exact ih _ hr.2.2 hh
    have := hlt s b h1 hn
    omega
  · exact (inR_eq.1 hn).2
theorem first_le {b : Int} {x : Rg} {s : List Rg} (h : rightFrom b (x :: s)) {n : Int} (hn : hasB (x :: s) n = true) : x.1 ≤ n ∧ hasB (x :: s) x.1 = true := by
  obtain ⟨h1, h2, h3⟩ := h
  refine ⟨?_, by rw [hasB_cons, inR_eq.2 ⟨Int.le_refl _, h2⟩]; rfl⟩
  rw [hasB_cons, Bool.or_eq_true] at hn
  rcases hn with hn | hn
  · exact (inR_eq.1 hn).1
  · apply Decidable.byContradiction
    intro hc
    rw [low h3 (by omega)] at hn
    cases hn
/-- The two ends of a set, and whether there are any. -/
def EndsOf (s : List Rg) (lo hi : Int) (ok : Bool) : Prop :=
  (ok = false ∧ lo = 0 ∧ hi = 0 ∧ ∀ n, hasB s n = false) ∨ (ok = true ∧ hasB s lo = true ∧ hasB s hi = true ∧ ∀ n, hasB s n = true → lo ≤ n ∧ n ≤ hi)

set_option maxHeartbeats 1000000 in
theorem ends_calls (v : Value) (s : List Rg) (h : St B w0 w R) (ha : ∀ W, St B w0 W R → R2 W v s) (hs : s.length ≤ 1000000) (hok : ∀ r ∈ s, okR r) :
    Calls Try.prog 33 #[v] w fun e w' => ∃ lo hi ok, e = .returned (.tuple #[.int .i64 lo, .int .i64 hi, .bool ok]) ∧ EndsOf s lo hi ok ∧ St B w0 w' R := by
  have HN := norm_calls v s h ha (by omega) hok
  clear h ha hok
  go_enter Try.func33, Try.ntmps33
  go_wp2_with fail
  refine HN.mono ?_
  rintro e w1 ⟨v1, u, rfl, m1, m2, m3, m4, m5⟩
  clear HN
  have HU := Lib.hid (And.intro m1 (And.intro m2 m5))
  obtain ⟨_, c1, rfl, hc, hcm, hat⟩ := St.r2 m5
  simp only [maxLen] at hcm
  clear m1 m2 m4 m5
  cases u with
  | nil =>
    clear hat
    go_wp2
    refine bodyPost_ret (v := .tuple #[.int .i64 0, .int .i64 0, .bool false]) (by simp [results, Try.results33, go_sem]) rfl ⟨0, 0, false, rfl, .inl ⟨rfl, rfl, rfl, fun n => ?_⟩, HU.out.2.2.drop⟩
    rw [← HU.out.2.1]; rfl
  | cons x t =>
    rcases nil_or_snoc (x :: t) with h | ⟨pre, y, h⟩
    · cases h
    · have hlen : (x :: t).length = pre.length + 1 := by rw [h]; simp
      obtain ⟨g, off, e2, d0, d1⟩ := hat 0 x rfl
      obtain ⟨g', off', e3, q0, q1⟩ := hat pre.length y (by rw [h]; simp)
      rw [e2] at e3
      obtain ⟨rfl, rfl⟩ : g = g' ∧ off = off' := by simpa using e3
      subst e2
      rw [hlen] at hc ⊢
      have HX := Lib.hid h
      simp only [Nat.zero_mul, Nat.add_zero] at d0
      have HE : Hid (EndsOf s x.1 y.2 true) := Lib.hid (by
        obtain ⟨⟨b, hb⟩, h2, -⟩ := HU.out
        refine .inr ⟨rfl, ?_, ?_, fun n hn => ?_⟩
        · rw [← h2]
          exact (first_le hb (n := x.1) (from_before hb x (by simp)).2).2
        · rw [← h2]
          rw [h] at hb ⊢
          exact (last_le hb (from_before hb y (by simp)).2).2
        · rw [← h2] at hn
          have a1 := (first_le hb hn).1
          rw [h] at hb hn
          exact ⟨a1, (last_le hb hn).1⟩)
      clear hat h hlen d1 q0
      generalize pre.length = n at *
      have hw : IntKind.i64.wrap ((n : Int) + 1 - 1) = (n : Int) := by rw [Int.add_sub_cancel]; exact IntWalk.i64_in _ (by omega)
      have hn1 : (0 : Int) < (n : Int) + 1 := by omega
      have hn2 : (n : Int) < (n : Int) + 1 := by omega
      have hn0 : (0 : Int) ≤ (n : Int) := by omega
      go_wp2_with fail
      go_quiet (fail)
      go_wp2
      refine bodyPost_ret (v := .tuple #[.int .i64 x.1, .int .i64 y.2, .bool true]) (by simp [results, Try.results33, go_sem]) rfl ⟨x.1, y.2, true, rfl, HE.out, (HU.out.2.2.drop.drewN _)⟩
end Go.Proofs.Ytkidoggmlafkgaa.Bd
