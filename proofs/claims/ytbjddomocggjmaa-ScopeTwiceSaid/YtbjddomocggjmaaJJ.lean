/- shape.parts: walked. -/
import Derived.Test.YtbjddomocggjmaaJI
namespace Go.Proofs.Ytbjddomocggjmaa.Sc
open Go.RowKit Go.ChangeShapes Go.WideShapes Go.Proofs.Ytbjddomocggjmaa.Sep
open Go.Proofs.YtbjddomocggjmaaW.PrintWords
variable {B : Nat} {w0 w : World} {R : HP}
theorem add_zero1 (ad : Addr) : ad.add 0 = ad := by unfold Addr.add; exact if_pos rfl
theorem all_one {α : Type} {l : List α} (h : l.length = 1) (p : α → Bool) (z : α) : l.all p = p (l.getD (0 : Int).toNat z) := by
  match l, h with
  | [a], _ => simp
/-- What parts says, at one depth. -/
def PartsAt (w0 : World) (n : Nat) : Prop := ∀ (W : World) (Q : HP) (ch : Bool) (A : Option Addr) (c : Nat) (l : List (Pt Ty)), S w0 W Q → kPt.C w0 A l.length l → (∀ p ∈ l, oPt oTy p) →
  Calls Try.prog 135 #[.slice A l.length c, .bool ch, .int .i64 n] W fun e w' => e = .returned (.bool (partsB (shapedB n) ch l)) ∧ S w0 w' Q
set_option maxHeartbeats 4000000 in
set_option maxRecDepth 100000 in
theorem bad_part_tells (n : Nat) (ih : ShapedAt w0 n) (ch : Bool) (l : List (Pt Ty)) (ho : ∀ p ∈ l, oPt oTy p) (b : Nat) :
    Tells kPt w0 (Blk (b + 1) (.cells #[.int .i64 n] 3) • (Blk b (.cells #[.bool ch] 4) • R)) 143 #[.pointer (some ⟨b, 0, none⟩), .pointer (some ⟨b + 1, 0, none⟩)] l (fun p => !partB (shapedB n) ch p) := by
  intro W p h hp cs hK
  have HX1 := Lib.hid (fun (W : World) (Q : HP) (h : S w0 W Q) => part_calls n ih ch p cs h hK (ho p hp))
  obtain ⟨ts, A17, c17, rfl, hT, -⟩ := kPt_open hK
  obtain ⟨A7, c7, A10, c10, A11, c11, A12, c12, A13, c13, A14, c14, rfl, -⟩ := kTy_open hT
  show Calls Try.prog 143 #[.agg #[.string p.n, .int .i64 p.t.k, .string p.t.n, .int .i64 p.t.c.f0, .int .i64 p.t.c.f1, .int .i64 p.t.c.f2, .bool p.t.c.f3, .bool p.t.c.f4, .slice A7 p.t.c.f5.length c7, .bool p.t.e, .string p.t.fr, .slice A10 p.t.ns.length c10, .slice A11 p.t.mo.length c11, .slice A12 p.t.ps.length c12, .slice A13 p.t.ad.length c13, .slice A14 p.t.el.length c14, .bool p.o, .slice A17 p.d.length c17], .pointer (some ⟨b, 0, none⟩), .pointer (some ⟨b + 1, 0, none⟩)] W fun e w' => e = .returned (.bool (!partB (shapedB n) ch p)) ∧ S w0 w' (Blk (b + 1) (.cells #[.int .i64 n] 3) • (Blk b (.cells #[.bool ch] 4) • R))
  have H := Lib.hid (h.alloc (.cells #[.string p.n, .int .i64 p.t.k, .string p.t.n, .int .i64 p.t.c.f0, .int .i64 p.t.c.f1, .int .i64 p.t.c.f2, .bool p.t.c.f3, .bool p.t.c.f4, .slice A7 p.t.c.f5.length c7, .bool p.t.e, .string p.t.fr, .slice A10 p.t.ns.length c10, .slice A11 p.t.mo.length c11, .slice A12 p.t.ps.length c12, .slice A13 p.t.ad.length c13, .slice A14 p.t.el.length c14, .bool p.o, .slice A17 p.d.length c17] 96))
  have d0 := H.out.cell 0 rfl
  have d1 := H.out.cell 1 rfl
  have d2 := H.out.cell 2 rfl
  have d3 := H.out.cell 3 rfl
  have d4 := H.out.cell 4 rfl
  have d5 := H.out.cell 5 rfl
  have d6 := H.out.cell 6 rfl
  have d7 := H.out.cell 7 rfl
  have d8 := H.out.cell 8 rfl
  have d9 := H.out.cell 9 rfl
  have d10 := H.out.cell 10 rfl
  have d11 := H.out.cell 11 rfl
  have d12 := H.out.cell 12 rfl
  have d13 := H.out.cell 13 rfl
  have d14 := H.out.cell 14 rfl
  have d15 := H.out.cell 15 rfl
  have d16 := H.out.cell 16 rfl
  have d17 := H.out.cell 17 rfl
  have e0 := H.out.two.cell 0 rfl
  have e1 := H.out.three.cell 0 rfl
  clear h hK
  go_enter Try.func143, Try.ntmps143
  go_wp2_with fail
  refine (HX1.out _ _ H.out).mono ?_
  rintro e w2 ⟨rfl, h2⟩
  have H2 := Lib.hid h2
  clear h2
  go_wp2
  go_ret
  exact ⟨rfl, H2.out.drop⟩
theorem parts_at (n : Nat) (ih : ShapedAt w0 n) : PartsAt w0 n := by
  intro w R ch A c l h hC ho
  have eg : ∀ args w, (callFunc 143 args).run Try.prog w = .ok (.enter 143 args) w := enters_of Try.func143 (by kernel_rfl) rfl
  have hl : l.length ≤ 9223372036854775807 := hC.2.1
  have H := Lib.hid (alloc_at (n := w.heap.size + 1) (h.alloc (.cells #[.bool ch] 4)) (.cells #[.int .i64 n] 3) (by simp))
  have HC := Lib.hid (contains_pts _ _ eg _ A c l hC H.out (bad_part_tells n ih ch l ho w.heap.size))
  unfold partsB
  rw [all_any]
  clear h hC ho eg
  by_cases q : l.length ≤ 256
  · have p1 : decide ((l.length : Int) ≤ 256) = true := decide_eq_true (by omega)
    rw [decide_eq_true q, Bool.true_and]
    go_enter Try.func135, Try.ntmps135
    go_wp2_with fail
    refine HC.out.mono ?_
    rintro e w1 ⟨rfl, h1⟩
    have H1 := Lib.hid h1
    clear h1
    go_wp2
    go_ret
    exact ⟨rfl, H1.out.drop.drop⟩
  · have p1 : decide ((l.length : Int) ≤ 256) = false := decide_eq_false (by omega)
    rw [decide_eq_false q, Bool.false_and]
    go_enter Try.func135, Try.ntmps135
    go_wp2
    go_ret
    exact ⟨rfl, H.out.drop.drop⟩
end Go.Proofs.Ytbjddomocggjmaa.Sc
