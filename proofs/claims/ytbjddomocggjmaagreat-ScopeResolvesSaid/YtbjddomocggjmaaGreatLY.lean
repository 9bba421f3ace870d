/- shape.shaped, Type: walked whole. -/
import Derived.Test.YtbjddomocggjmaaGreatLO
import Derived.Test.YtbjddomocggjmaaGreatLU
import Derived.Test.YtbjddomocggjmaaGreatLV
import Derived.Test.YtbjddomocggjmaaGreatLW
import Derived.Test.YtbjddomocggjmaaGreatLX
section
namespace Go.Proofs.YtbjddomocggjmaaGreat.Sc
open Go.RowKit Go.ChangeShapes Go.WideShapes Go.Proofs.YtbjddomocggjmaaGreat.Sep
open Go.Proofs.YtbjddomocggjmaaGreatW.PrintWords
variable {B : Nat} {w0 w : World} {R : HP}
set_option maxHeartbeats 16000000 in
set_option maxRecDepth 100000 in
theorem shaped_1 (n : Nat) (hn : n ≤ 100) (ih : ShapedAt w0 n) (t : Ty) (A7 : Option Addr) (c7 : Nat) (A10 : Option Addr) (c10 : Nat) (A11 : Option Addr) (c11 : Nat) (A12 : Option Addr) (c12 : Nat) (A13 : Option Addr) (c13 : Nat) (A14 : Option Addr) (c14 : Nat) (h : S w0 w R) (l7 : t.c.f5.length ≤ c7) (g7 : kCon.C w0 A7 t.c.f5.length t.c.f5) (g10 : Kd.string.C w0 A10 t.ns.length t.ns) (g11 : Kd.string.C w0 A11 t.mo.length t.mo) (g12 : kPt.C w0 A12 t.ps.length t.ps) (g13 : kPt.C w0 A13 t.ad.length t.ad) (g14 : kTy.C w0 A14 t.el.length t.el)
  (ho : oS t.fr ∧ (oL t.ns ∧ ∀ s ∈ t.ns,oS s) ∧ (oL t.mo ∧ ∀ s ∈ t.mo,oS s) ∧ (oL t.ps ∧ ∀ p ∈ t.ps,oPt oTy p) ∧ (oL t.ad ∧ ∀ p ∈ t.ad,oPt oTy p) ∧ (oL t.el ∧ ∀ x ∈ t.el,oTy x) ∧ oS t.n) (hk : t.k = 1) (r : Bool) (hr : r = (!fN t && !fC t && !t.e && !fF t && !fNs t && !fMo t && !fPs t && !fAd t && !fEl t)) :
  Calls Tryz.prog 58 #[.agg #[.int .i64 t.k,.string t.n,.int .i64 t.c.f0,.int .i64 t.c.f1,.int .i64 t.c.f2,.bool t.c.f3,.bool t.c.f4,.slice A7 t.c.f5.length c7,.bool t.e,.string t.fr,.slice A10 t.ns.length c10,.slice A11 t.mo.length c11,.slice A12 t.ps.length c12,.slice A13 t.ad.length c13,.slice A14 t.el.length c14],.int .i64 ((n : Int) + 1)] w fun e w' => e = .returned (.bool (conB 40 t.c && r)) ∧ S w0 w' R := by
 have H := Lib.hid (h.alloc (.cells #[.int .i64 t.k,.string t.n,.int .i64 t.c.f0,.int .i64 t.c.f1,.int .i64 t.c.f2,.bool t.c.f3,.bool t.c.f4,.slice A7 t.c.f5.length c7,.bool t.e,.string t.fr,.slice A10 t.ns.length c10,.slice A11 t.mo.length c11,.slice A12 t.ps.length c12,.slice A13 t.ad.length c13,.slice A14 t.el.length c14] 38))
 have d0 := H.out.cell 0 rfl
 have d1 := H.out.cell 1 rfl
 have d2 := H.out.cell 2 rfl
 have d3 := H.out.cell 3 rfl
 have d4 := H.out.cell 4 rfl
 have d5 := H.out.cell 5 rfl
 have d6 := H.out.cell 6 rfl
 have d7 := H.out.cell 7 rfl
 have d8 := H.out.cell 8 rfl
 have d9 := H.out.cell 9 rfl
 have d10 := H.out.cell 10 rfl
 have d11 := H.out.cell 11 rfl
 have d12 := H.out.cell 12 rfl
 have d13 := H.out.cell 13 rfl
 have d14 := H.out.cell 14 rfl
 have n0 : (((n : Int) + 1) == 0) = false := beq_eq_false_iff_ne.2 (by omega)
 have n1 : decide ((n : Int) + 1 = 0) = false := decide_eq_false (by omega)
 have n2 : IntKind.i64.wrap ((n : Int) + 1 - 1) = (n : Int) := by rw [show (n : Int) + 1 - 1 = n by omega]; exact IntWalk.i64_in _ (by omega)
 have n3 : ((n : Int) + 1 - 1) = (n : Int) := by omega
 have HC := Lib.hid (And.intro l7 g7)
 have HE := Lib.hid (And.intro g14 (And.intro ho (And.intro ih (And.intro g10 (And.intro g11 (And.intro g12 g13))))))
 have m1 : (t.k == 1) = true := by rw [hk]; rfl
 have m4 : (t.k == 4) = false := by rw [hk]; rfl
 have m2 : (t.k == 2) = false := by rw [hk]; rfl
 have m5 : (t.k == 5) = false := by rw [hk]; rfl
 have m6 : (t.k == 6) = false := by rw [hk]; rfl
 have m7 : (t.k == 7) = false := by rw [hk]; rfl
 have m3 : (t.k == 3) = false := by rw [hk]; rfl
 have m8 : (t.k == 8) = false := by rw [hk]; rfl
 have m10 : (t.k == 10) = false := by rw [hk]; rfl
 have m9 : (t.k == 9) = false := by rw [hk]; rfl
 have m11 : (t.k == 11) = false := by rw [hk]; rfl
 clear h l7 g7 g10 g11 g12 g13 g14 hk ho ih
 cases hc : conB 40 t.c with
 | false =>
  have HC2 := Lib.hid (con40_calls t.c A7 c7 H.out HC.out.1 HC.out.2)
  rw [hc] at HC2
  clear hc
  go_enter Tryz.func58,Tryz.ntmps58
  go_wp2_with fail
  refine HC2.out.mono ?_
  rintro e w2 ⟨rfl,h2⟩
  have H2 := Lib.hid h2
  clear h2
  go_wp2
  go_ret
  exact ⟨rfl,H2.out.drop⟩
 | true =>
  have HC2 := Lib.hid (con40_calls t.c A7 c7 H.out HC.out.1 HC.out.2)
  rw [hc] at HC2
  clear hc
  rw [Bool.true_and]
  go_enter Tryz.func58,Tryz.ntmps58
  go_wp2_with fail
  refine HC2.out.mono ?_
  rintro e w2 ⟨rfl,h2⟩
  have H2 := Lib.hid h2
  replace d0 := H2.out.cell 0 rfl
  replace d1 := H2.out.cell 1 rfl
  replace d2 := H2.out.cell 2 rfl
  replace d3 := H2.out.cell 3 rfl
  replace d4 := H2.out.cell 4 rfl
  replace d5 := H2.out.cell 5 rfl
  replace d6 := H2.out.cell 6 rfl
  replace d7 := H2.out.cell 7 rfl
  replace d8 := H2.out.cell 8 rfl
  replace d9 := H2.out.cell 9 rfl
  replace d10 := H2.out.cell 10 rfl
  replace d11 := H2.out.cell 11 rfl
  replace d12 := H2.out.cell 12 rfl
  replace d13 := H2.out.cell 13 rfl
  replace d14 := H2.out.cell 14 rfl
  clear h2
  go_wp2_with fail
  refine (of_calls t A7 c7 A10 c10 A11 c11 A12 c12 A13 c13 A14 c14 H2.out).mono ?_
  rintro e w3 ⟨rfl,h3⟩
  have H3 := Lib.hid (alloc_at (n := w3.heap.size) h3 (.cells #[.bool (fN t),.bool (fC t),.bool t.e,.bool (fF t),.bool (fNs t),.bool (fMo t),.bool (fPs t),.bool (fAd t),.bool (fEl t)] 115) rfl)
  have HF := Lib.hid hr
  unfold flags
  replace d0 := H3.out.two.cell 0 rfl
  replace d1 := H3.out.two.cell 1 rfl
  replace d2 := H3.out.two.cell 2 rfl
  replace d3 := H3.out.two.cell 3 rfl
  replace d4 := H3.out.two.cell 4 rfl
  replace d5 := H3.out.two.cell 5 rfl
  replace d6 := H3.out.two.cell 6 rfl
  replace d7 := H3.out.two.cell 7 rfl
  replace d8 := H3.out.two.cell 8 rfl
  replace d9 := H3.out.two.cell 9 rfl
  replace d10 := H3.out.two.cell 10 rfl
  replace d11 := H3.out.two.cell 11 rfl
  replace d12 := H3.out.two.cell 12 rfl
  replace d13 := H3.out.two.cell 13 rfl
  replace d14 := H3.out.two.cell 14 rfl
  have f0 := H3.out.cell 0 rfl
  have f1 := H3.out.cell 1 rfl
  have f2 := H3.out.cell 2 rfl
  have f3 := H3.out.cell 3 rfl
  have f4 := H3.out.cell 4 rfl
  have f5 := H3.out.cell 5 rfl
  have f6 := H3.out.cell 6 rfl
  have f7 := H3.out.cell 7 rfl
  have f8 := H3.out.cell 8 rfl
  clear h3 HC HC2 H H2 hr
  generalize fN t = b0 at *
  generalize fC t = b1 at *
  generalize fF t = b3 at *
  generalize fNs t = b4 at *
  generalize fMo t = b5 at *
  generalize fPs t = b6 at *
  generalize fAd t = b7 at *
  generalize fEl t = b8 at *
  generalize t.e = b2 at *
  cases b2
  all_goals go_wp2
  all_goals ((try simp only [Bool.not_eq_true] at *); subst_vars)
  all_goals (go_ret; exact ⟨by first | rfl | (rw [HF.out]; rfl) | simp,H3.out.drop.drop⟩)
set_option maxHeartbeats 16000000 in
set_option maxRecDepth 100000 in
theorem shaped_4 (n : Nat) (hn : n ≤ 100) (ih : ShapedAt w0 n) (t : Ty) (A7 : Option Addr) (c7 : Nat) (A10 : Option Addr) (c10 : Nat) (A11 : Option Addr) (c11 : Nat) (A12 : Option Addr) (c12 : Nat) (A13 : Option Addr) (c13 : Nat) (A14 : Option Addr) (c14 : Nat) (h : S w0 w R) (l7 : t.c.f5.length ≤ c7) (g7 : kCon.C w0 A7 t.c.f5.length t.c.f5) (g10 : Kd.string.C w0 A10 t.ns.length t.ns) (g11 : Kd.string.C w0 A11 t.mo.length t.mo) (g12 : kPt.C w0 A12 t.ps.length t.ps) (g13 : kPt.C w0 A13 t.ad.length t.ad) (g14 : kTy.C w0 A14 t.el.length t.el)
  (ho : oS t.fr ∧ (oL t.ns ∧ ∀ s ∈ t.ns,oS s) ∧ (oL t.mo ∧ ∀ s ∈ t.mo,oS s) ∧ (oL t.ps ∧ ∀ p ∈ t.ps,oPt oTy p) ∧ (oL t.ad ∧ ∀ p ∈ t.ad,oPt oTy p) ∧ (oL t.el ∧ ∀ x ∈ t.el,oTy x) ∧ oS t.n) (hk : t.k = 4) (r : Bool) (hr : r = (!fN t && !fC t && !t.e && !fF t && !fNs t && !fMo t && !fPs t && !fAd t && !fEl t)) :
  Calls Tryz.prog 58 #[.agg #[.int .i64 t.k,.string t.n,.int .i64 t.c.f0,.int .i64 t.c.f1,.int .i64 t.c.f2,.bool t.c.f3,.bool t.c.f4,.slice A7 t.c.f5.length c7,.bool t.e,.string t.fr,.slice A10 t.ns.length c10,.slice A11 t.mo.length c11,.slice A12 t.ps.length c12,.slice A13 t.ad.length c13,.slice A14 t.el.length c14],.int .i64 ((n : Int) + 1)] w fun e w' => e = .returned (.bool (conB 40 t.c && r)) ∧ S w0 w' R := by
 have H := Lib.hid (h.alloc (.cells #[.int .i64 t.k,.string t.n,.int .i64 t.c.f0,.int .i64 t.c.f1,.int .i64 t.c.f2,.bool t.c.f3,.bool t.c.f4,.slice A7 t.c.f5.length c7,.bool t.e,.string t.fr,.slice A10 t.ns.length c10,.slice A11 t.mo.length c11,.slice A12 t.ps.length c12,.slice A13 t.ad.length c13,.slice A14 t.el.length c14] 38))
 have d0 := H.out.cell 0 rfl
 have d1 := H.out.cell 1 rfl
 have d2 := H.out.cell 2 rfl
 have d3 := H.out.cell 3 rfl
 have d4 := H.out.cell 4 rfl
 have d5 := H.out.cell 5 rfl
 have d6 := H.out.cell 6 rfl
 have d7 := H.out.cell 7 rfl
 have d8 := H.out.cell 8 rfl
 have d9 := H.out.cell 9 rfl
 have d10 := H.out.cell 10 rfl
 have d11 := H.out.cell 11 rfl
 have d12 := H.out.cell 12 rfl
 have d13 := H.out.cell 13 rfl
 have d14 := H.out.cell 14 rfl
 have n0 : (((n : Int) + 1) == 0) = false := beq_eq_false_iff_ne.2 (by omega)
 have n1 : decide ((n : Int) + 1 = 0) = false := decide_eq_false (by omega)
 have n2 : IntKind.i64.wrap ((n : Int) + 1 - 1) = (n : Int) := by rw [show (n : Int) + 1 - 1 = n by omega]; exact IntWalk.i64_in _ (by omega)
 have n3 : ((n : Int) + 1 - 1) = (n : Int) := by omega
 have HC := Lib.hid (And.intro l7 g7)
 have HE := Lib.hid (And.intro g14 (And.intro ho (And.intro ih (And.intro g10 (And.intro g11 (And.intro g12 g13))))))
 have m1 : (t.k == 1) = false := by rw [hk]; rfl
 have m4 : (t.k == 4) = true := by rw [hk]; rfl
 have m2 : (t.k == 2) = false := by rw [hk]; rfl
 have m5 : (t.k == 5) = false := by rw [hk]; rfl
 have m6 : (t.k == 6) = false := by rw [hk]; rfl
 have m7 : (t.k == 7) = false := by rw [hk]; rfl
 have m3 : (t.k == 3) = false := by rw [hk]; rfl
 have m8 : (t.k == 8) = false := by rw [hk]; rfl
 have m10 : (t.k == 10) = false := by rw [hk]; rfl
 have m9 : (t.k == 9) = false := by rw [hk]; rfl
 have m11 : (t.k == 11) = false := by rw [hk]; rfl
 clear h l7 g7 g10 g11 g12 g13 g14 hk ho ih
 cases hc : conB 40 t.c with
 | false =>
  have HC2 := Lib.hid (con40_calls t.c A7 c7 H.out HC.out.1 HC.out.2)
  rw [hc] at HC2
  clear hc
  go_enter Tryz.func58,Tryz.ntmps58
  go_wp2_with fail
  refine HC2.out.mono ?_
  rintro e w2 ⟨rfl,h2⟩
  have H2 := Lib.hid h2
  clear h2
  go_wp2
  go_ret
  exact ⟨rfl,H2.out.drop⟩
 | true =>
  have HC2 := Lib.hid (con40_calls t.c A7 c7 H.out HC.out.1 HC.out.2)
  rw [hc] at HC2
  clear hc
  rw [Bool.true_and]
  go_enter Tryz.func58,Tryz.ntmps58
  go_wp2_with fail
  refine HC2.out.mono ?_
  rintro e w2 ⟨rfl,h2⟩
  have H2 := Lib.hid h2
  replace d0 := H2.out.cell 0 rfl
  replace d1 := H2.out.cell 1 rfl
  replace d2 := H2.out.cell 2 rfl
  replace d3 := H2.out.cell 3 rfl
  replace d4 := H2.out.cell 4 rfl
  replace d5 := H2.out.cell 5 rfl
  replace d6 := H2.out.cell 6 rfl
  replace d7 := H2.out.cell 7 rfl
  replace d8 := H2.out.cell 8 rfl
  replace d9 := H2.out.cell 9 rfl
  replace d10 := H2.out.cell 10 rfl
  replace d11 := H2.out.cell 11 rfl
  replace d12 := H2.out.cell 12 rfl
  replace d13 := H2.out.cell 13 rfl
  replace d14 := H2.out.cell 14 rfl
  clear h2
  go_wp2_with fail
  refine (of_calls t A7 c7 A10 c10 A11 c11 A12 c12 A13 c13 A14 c14 H2.out).mono ?_
  rintro e w3 ⟨rfl,h3⟩
  have H3 := Lib.hid (alloc_at (n := w3.heap.size) h3 (.cells #[.bool (fN t),.bool (fC t),.bool t.e,.bool (fF t),.bool (fNs t),.bool (fMo t),.bool (fPs t),.bool (fAd t),.bool (fEl t)] 115) rfl)
  have HF := Lib.hid hr
  unfold flags
  replace d0 := H3.out.two.cell 0 rfl
  replace d1 := H3.out.two.cell 1 rfl
  replace d2 := H3.out.two.cell 2 rfl
  replace d3 := H3.out.two.cell 3 rfl
  replace d4 := H3.out.two.cell 4 rfl
  replace d5 := H3.out.two.cell 5 rfl
  replace d6 := H3.out.two.cell 6 rfl
  replace d7 := H3.out.two.cell 7 rfl
  replace d8 := H3.out.two.cell 8 rfl
  replace d9 := H3.out.two.cell 9 rfl
  replace d10 := H3.out.two.cell 10 rfl
  replace d11 := H3.out.two.cell 11 rfl
  replace d12 := H3.out.two.cell 12 rfl
  replace d13 := H3.out.two.cell 13 rfl
  replace d14 := H3.out.two.cell 14 rfl
  have f0 := H3.out.cell 0 rfl
  have f1 := H3.out.cell 1 rfl
  have f2 := H3.out.cell 2 rfl
  have f3 := H3.out.cell 3 rfl
  have f4 := H3.out.cell 4 rfl
  have f5 := H3.out.cell 5 rfl
  have f6 := H3.out.cell 6 rfl
  have f7 := H3.out.cell 7 rfl
  have f8 := H3.out.cell 8 rfl
  clear h3 HC HC2 H H2 hr
  generalize fN t = b0 at *
  generalize fC t = b1 at *
  generalize fF t = b3 at *
  generalize fNs t = b4 at *
  generalize fMo t = b5 at *
  generalize fPs t = b6 at *
  generalize fAd t = b7 at *
  generalize fEl t = b8 at *
  generalize t.e = b2 at *
  cases b2
  all_goals go_wp2
  all_goals ((try simp only [Bool.not_eq_true] at *); subst_vars)
  all_goals (go_ret; exact ⟨by first | rfl | (rw [HF.out]; rfl) | simp,H3.out.drop.drop⟩)
end Go.Proofs.YtbjddomocggjmaaGreat.Sc
end
section
namespace Go.Proofs.YtbjddomocggjmaaGreat.Sc
open Go.RowKit Go.ChangeShapes Go.WideShapes Go.Proofs.YtbjddomocggjmaaGreat.Sep
open Go.Proofs.YtbjddomocggjmaaGreatW.PrintWords
variable {B : Nat} {w0 w : World} {R : HP}
theorem oTy_parts {t : Ty} (h : oTy t) : oS t.fr ∧ (oL t.ns ∧ ∀ s ∈ t.ns,oS s) ∧ (oL t.mo ∧ ∀ s ∈ t.mo,oS s) ∧ (oL t.ps ∧ ∀ p ∈ t.ps,oPt oTy p) ∧ (oL t.ad ∧ ∀ p ∈ t.ad,oPt oTy p) ∧ (oL t.el ∧ ∀ x ∈ t.el,oTy x) ∧ oS t.n := by
 obtain ⟨-,h1, -,h3,h4,h5,h6,h7,h8, -⟩ := h 1
 refine ⟨h3,h4,h5,⟨h6.1,fun p hp => ?_⟩,⟨h7.1,fun p hp => ?_⟩,⟨h8,fun x hx d => (h (d + 1)).2.2.2.2.2.2.2.2.2 x hx⟩,h1⟩
 ·have q := h6.2 p hp
  exact ⟨q.1,fun d => ((h (d + 1)).2.2.2.2.2.2.1.2 p hp).2.1,q.2.2⟩
 ·have q := h7.2 p hp
  exact ⟨q.1,fun d => ((h (d + 1)).2.2.2.2.2.2.2.1.2 p hp).2.1,q.2.2⟩
set_option maxRecDepth 100000 in
theorem shaped_zero : ShapedAt w0 0 := by
 intro w R t cs h hK ho
 obtain ⟨A7,c7,A10,c10,A11,c11,A12,c12,A13,c13,A14,c14,rfl, -⟩ := kTy_open (id hK)
 have H := Lib.hid (h.alloc (.cells #[.int .i64 t.k,.string t.n,.int .i64 t.c.f0,.int .i64 t.c.f1,.int .i64 t.c.f2,.bool t.c.f3,.bool t.c.f4,.slice A7 t.c.f5.length c7,.bool t.e,.string t.fr,.slice A10 t.ns.length c10,.slice A11 t.mo.length c11,.slice A12 t.ps.length c12,.slice A13 t.ad.length c13,.slice A14 t.el.length c14] 38))
 have e : shapedB 0 t = false := rfl
 rw [e]
 clear h hK ho e
 show Calls Tryz.prog 58 #[.agg #[.int .i64 t.k,.string t.n,.int .i64 t.c.f0,.int .i64 t.c.f1,.int .i64 t.c.f2,.bool t.c.f3,.bool t.c.f4,.slice A7 t.c.f5.length c7,.bool t.e,.string t.fr,.slice A10 t.ns.length c10,.slice A11 t.mo.length c11,.slice A12 t.ps.length c12,.slice A13 t.ad.length c13,.slice A14 t.el.length c14],.int .i64 0] w _
 go_enter Tryz.func58,Tryz.ntmps58
 go_wp2
 go_ret
 exact ⟨rfl,H.out.drop⟩
theorem shaped_succ (n : Nat) (hn : n ≤ 100) (ih : ShapedAt w0 n) : ShapedAt w0 (n + 1) := by
 intro w R t cs h hK ho
 obtain ⟨A7,c7,A10,c10,A11,c11,A12,c12,A13,c13,A14,c14,rfl,l7,g7,l10,g10,l11,g11,l12,g12,l13,g13,l14,g14⟩ := kTy_open (id hK)
 have hp := oTy_parts ho
 have e : shapedB (n + 1) t = shapedS (shapedB n) t := rfl
 rw [e]
 unfold shapedS
 by_cases k1 : t.k = 1 ∨ t.k = 4
 ·rw [if_pos k1]
  rcases k1 with hk | hk
  ·exact shaped_1 n hn ih t A7 c7 A10 c10 A11 c11 A12 c12 A13 c13 A14 c14 h l7 g7 g10 g11 g12 g13 g14 hp hk _ rfl
  ·exact shaped_4 n hn ih t A7 c7 A10 c10 A11 c11 A12 c12 A13 c13 A14 c14 h l7 g7 g10 g11 g12 g13 g14 hp hk _ rfl
 rw [if_neg k1]
 by_cases k2 : t.k = 2 ∨ t.k = 5 ∨ t.k = 6
 ·rw [if_pos k2]
  rcases k2 with hk | hk | hk
  ·exact shaped_2 n hn ih t A7 c7 A10 c10 A11 c11 A12 c12 A13 c13 A14 c14 h l7 g7 g10 g11 g12 g13 g14 hp hk _ rfl
  ·exact shaped_5 n hn ih t A7 c7 A10 c10 A11 c11 A12 c12 A13 c13 A14 c14 h l7 g7 g10 g11 g12 g13 g14 hp hk _ rfl
  ·exact shaped_6 n hn ih t A7 c7 A10 c10 A11 c11 A12 c12 A13 c13 A14 c14 h l7 g7 g10 g11 g12 g13 g14 hp hk _ rfl
 rw [if_neg k2]
 by_cases hk : t.k = 7
 ·rw [if_pos hk]
  exact shaped_7 n hn ih t A7 c7 A10 c10 A11 c11 A12 c12 A13 c13 A14 c14 h l7 g7 g10 g11 g12 g13 g14 hp hk _ rfl
 rw [if_neg hk]
 have k7' := hk
 clear hk
 by_cases hk : t.k = 3
 ·rw [if_pos hk]
  exact shaped_3 n hn ih t A7 c7 A10 c10 A11 c11 A12 c12 A13 c13 A14 c14 h l7 g7 g10 g11 g12 g13 g14 hp hk _ rfl
 rw [if_neg hk]
 have k3' := hk
 clear hk
 by_cases hk : t.k = 8
 ·rw [if_pos hk]
  exact shaped_8 n hn ih t A7 c7 A10 c10 A11 c11 A12 c12 A13 c13 A14 c14 h l7 g7 g10 g11 g12 g13 g14 hp hk _ rfl
 rw [if_neg hk]
 have k8' := hk
 clear hk
 by_cases hk : t.k = 10
 ·rw [if_pos hk]
  exact shaped_10 n hn ih t A7 c7 A10 c10 A11 c11 A12 c12 A13 c13 A14 c14 h l7 g7 g10 g11 g12 g13 g14 hp hk _ rfl
 rw [if_neg hk]
 have k10' := hk
 clear hk
 by_cases hk : t.k = 9
 ·rw [if_pos hk]
  exact shaped_9 n hn ih t A7 c7 A10 c10 A11 c11 A12 c12 A13 c13 A14 c14 h l7 g7 g10 g11 g12 g13 g14 hp hk _ rfl
 rw [if_neg hk]
 have k9' := hk
 clear hk
 by_cases hk : t.k = 11
 ·rw [decide_eq_true hk,Bool.true_and]
  exact shaped_11 n hn ih t A7 c7 A10 c10 A11 c11 A12 c12 A13 c13 A14 c14 h l7 g7 g10 g11 g12 g13 g14 hp hk _ rfl
 rw [decide_eq_false hk]
 simp only [Bool.false_and]
 have HN : t.k ≠ 1 ∧ t.k ≠ 4 ∧ t.k ≠ 2 ∧ t.k ≠ 5 ∧ t.k ≠ 6 ∧ t.k ≠ 7 ∧ t.k ≠ 3 ∧ t.k ≠ 8 ∧ t.k ≠ 10 ∧ t.k ≠ 9 ∧ t.k ≠ 11 := by omega
 exact shaped_0 n hn ih t A7 c7 A10 c10 A11 c11 A12 c12 A13 c13 A14 c14 h l7 g7 g10 g11 g12 g13 g14 hp HN _ rfl
theorem shaped_at (n : Nat) (hn : n ≤ 101) : ShapedAt w0 n := by
 induction n with
 | zero => exact shaped_zero
 | succ n ih => exact shaped_succ n (by omega) (ih (by omega))
set_option maxHeartbeats 4000000 in
set_option maxRecDepth 100000 in
theorem type_calls (t : Ty) (cs : List Value) (h : S w0 w R) (hK : kTy.K w0 t cs) (ho : oTy t) :
  Calls Tryz.prog 33 #[.agg cs.toArray] w fun e w' => e = .returned (.bool (shapedB 40 t)) ∧ S w0 w' R := by
 have HT := Lib.hid (fun (W : World) (Q : HP) (h : S w0 W Q) => shaped_at (w0 := w0) 40 (by omega) W Q t cs h hK ho)
 obtain ⟨A7,c7,A10,c10,A11,c11,A12,c12,A13,c13,A14,c14,rfl, -⟩ := kTy_open (id hK)
 have H := Lib.hid (h.alloc (.cells #[.int .i64 t.k,.string t.n,.int .i64 t.c.f0,.int .i64 t.c.f1,.int .i64 t.c.f2,.bool t.c.f3,.bool t.c.f4,.slice A7 t.c.f5.length c7,.bool t.e,.string t.fr,.slice A10 t.ns.length c10,.slice A11 t.mo.length c11,.slice A12 t.ps.length c12,.slice A13 t.ad.length c13,.slice A14 t.el.length c14] 38))
 have d0 := H.out.cell 0 rfl
 have d1 := H.out.cell 1 rfl
 have d2 := H.out.cell 2 rfl
 have d3 := H.out.cell 3 rfl
 have d4 := H.out.cell 4 rfl
 have d5 := H.out.cell 5 rfl
 have d6 := H.out.cell 6 rfl
 have d7 := H.out.cell 7 rfl
 have d8 := H.out.cell 8 rfl
 have d9 := H.out.cell 9 rfl
 have d10 := H.out.cell 10 rfl
 have d11 := H.out.cell 11 rfl
 have d12 := H.out.cell 12 rfl
 have d13 := H.out.cell 13 rfl
 have d14 := H.out.cell 14 rfl
 clear h hK ho
 show Calls Tryz.prog 33 #[.agg #[.int .i64 t.k,.string t.n,.int .i64 t.c.f0,.int .i64 t.c.f1,.int .i64 t.c.f2,.bool t.c.f3,.bool t.c.f4,.slice A7 t.c.f5.length c7,.bool t.e,.string t.fr,.slice A10 t.ns.length c10,.slice A11 t.mo.length c11,.slice A12 t.ps.length c12,.slice A13 t.ad.length c13,.slice A14 t.el.length c14]] w _
 go_enter Tryz.func33,Tryz.ntmps33
 go_wp2_with fail
 refine (HT.out _ _ H.out).mono ?_
 rintro e w2 ⟨rfl,h2⟩
 have H2 := Lib.hid h2
 clear h2
 go_wp2
 go_ret
 exact ⟨rfl,H2.out.drop⟩
end Go.Proofs.YtbjddomocggjmaaGreat.Sc
end
