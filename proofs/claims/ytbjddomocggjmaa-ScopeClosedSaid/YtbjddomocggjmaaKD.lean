/- The kinds of schemas, opened and made. -/
import Derived.Test.YtbjddomocggjmaaKC
namespace Go.Proofs.Ytbjddomocggjmaa.Sc
open Go.RowKit Go.ChangeShapes Go.WideShapes Go.Proofs.Ytbjddomocggjmaa.Open Go.Proofs.Ytbjddomocggjmaa.Sep Go.Proofs.YtbjddomocggjmaaW.PrintWords
variable {w : World}
theorem pt_imp {d d' : Kd Ty} (h : ∀ t cs, d.K w t cs → d'.K w t cs) {x : Pt Ty} {cs : List Value} (hK : (FPt d).K w x cs) : (FPt d').K w x cs := by
  obtain ⟨c0, c1, rfl, h0, ⟨c2, c3, rfl, h1, h2⟩⟩ := hK
  exact ⟨c0, _, rfl, h0, ⟨c2, c3, rfl, h _ _ h1, h2⟩⟩
theorem c_imp1 {α : Type} {d d' : Kd α} (hs : d.sz = d'.sz) {A : Option Addr} {n : Nat} {xs : List α} (h : d.C w A n xs) (hi : ∀ x cs, d.K w x cs → d'.K w x cs) : d'.C w A n xs := by
  obtain ⟨h1, h2, h3⟩ := h
  refine ⟨h1, h2, fun hn => ?_⟩
  obtain ⟨ad, e, hc⟩ := h3 hn
  refine ⟨ad, e, fun j p hp => ?_⟩
  obtain ⟨c, q1, q2, q3⟩ := hc j p hp
  exact ⟨c, q1.trans hs, hi _ _ q2, fun i u hu => by rw [← hs]; exact q3 i u hu⟩
theorem pt_C {n : Nat} {A : Option Addr} {m : Nat} {xs : List (Pt Ty)} (h : (FPt (Kd.upto FTy 15 eTy n)).C w A m xs) : kPt.C w A m xs :=
  c_imp1 (by show 1 + ((Kd.upto FTy 15 eTy n).sz + (1 + 1)) = _; rw [szTy n]; rfl) h fun _ _ hK => pt_imp (d' := kTy) (fun _ _ hT => ⟨n, hT⟩) hK
theorem szPt (n : Nat) : (FPt (Kd.upto FTy 15 eTy n)).sz = 18 := by show 1 + ((Kd.upto FTy 15 eTy n).sz + (1 + 1)) = _; rw [szTy n]
theorem pt_C_back {A : Option Addr} {m : Nat} {xs : List (Pt Ty)} (h : kPt.C w A m xs) : ∃ n, ∀ k, n ≤ k → (FPt (Kd.upto FTy 15 eTy k)).C w A m xs := by
  rcases Nat.eq_zero_or_pos m with hz | hpos
  · subst hz
    exact ⟨0, fun k _ => ⟨h.1, h.2.1, fun hp => absurd hp (Nat.lt_irrefl 0)⟩⟩
  · obtain ⟨ad, e, hc⟩ := h.2.2 hpos
    obtain ⟨N, hN⟩ := Kd.bounded (P := fun n j => ∀ p, xs[j]? = some p → ∃ c, c.length = 18 ∧ (FPt (Kd.upto FTy 15 eTy n)).K w p c ∧ ∀ i u, c[i]? = some u → w.cell? (ad.add (j * 18 + i)) = some u)
      (fun n n' j hnm hp p hj => by
        obtain ⟨c, h1, h2, h3⟩ := hp p hj
        exact ⟨c, h1, pt_imp (fun t cs ht => Kd.upto_K_le monoTy szTy hnm ht) h2, h3⟩) xs.length
      (fun j hj => by
        obtain ⟨c, h1, h2, h3⟩ := hc j _ (List.getElem?_eq_getElem hj)
        obtain ⟨c0, c1, rfl, k0, ⟨c2, c3, rfl, ⟨n, k1⟩, k2⟩⟩ := h2
        refine ⟨n, fun p hp => ?_⟩
        rw [List.getElem?_eq_getElem hj] at hp
        cases hp
        exact ⟨_, h1, ⟨c0, _, rfl, k0, ⟨c2, c3, rfl, k1, k2⟩⟩, h3⟩)
    refine ⟨N, fun k hk => ⟨h.1, h.2.1, fun _ => ⟨ad, e, fun j p hp => ?_⟩⟩⟩
    obtain ⟨c, h1, h2, h3⟩ := hN j (List.getElem?_eq_some_iff.1 hp).1 p hp
    exact ⟨c, by rw [szPt]; exact h1, pt_imp (fun t cs ht => Kd.upto_K_le monoTy szTy hk ht) h2, fun i u hu => by rw [szPt]; exact h3 i u hu⟩
theorem kTy_open {x : Ty} {cs : List Value} (h : kTy.K w x cs) : ∃ A7 c7 A10 c10 A11 c11 A12 c12 A13 c13 A14 c14, cs = [.int .i64 x.k, .string x.n, .int .i64 x.c.f0, .int .i64 x.c.f1, .int .i64 x.c.f2, .bool x.c.f3, .bool x.c.f4, .slice A7 x.c.f5.length c7, .bool x.e, .string x.fr, .slice A10 x.ns.length c10, .slice A11 x.mo.length c11, .slice A12 x.ps.length c12, .slice A13 x.ad.length c13, .slice A14 x.el.length c14] ∧ x.c.f5.length ≤ c7 ∧ kCon.C w A7 x.c.f5.length x.c.f5 ∧ x.ns.length ≤ c10 ∧ Kd.string.C w A10 x.ns.length x.ns ∧ x.mo.length ≤ c11 ∧ Kd.string.C w A11 x.mo.length x.mo ∧ x.ps.length ≤ c12 ∧ kPt.C w A12 x.ps.length x.ps ∧ x.ad.length ≤ c13 ∧ kPt.C w A13 x.ad.length x.ad ∧ x.el.length ≤ c14 ∧ kTy.C w A14 x.el.length x.el := by
  obtain ⟨n, h⟩ := h
  cases n with
  | zero => exact h.elim
  | succ n =>
    obtain ⟨_, _, rfl, rfl, ⟨_, _, rfl, rfl, ⟨_, _, rfl, hc, ⟨_, _, rfl, rfl, ⟨_, _, rfl, rfl, ⟨_, _, rfl, ⟨A10, c10, rfl, l10, g10⟩, ⟨_, _, rfl, ⟨A11, c11, rfl, l11, g11⟩, ⟨_, _, rfl, ⟨A12, c12, rfl, l12, g12⟩, ⟨_, _, rfl, ⟨A13, c13, rfl, l13, g13⟩, ⟨A14, c14, rfl, l14, g14⟩⟩⟩⟩⟩⟩⟩⟩⟩⟩ := h
    obtain ⟨A7, c7, rfl, l7, g7⟩ := PScopeTwice.k50_open hc
    exact ⟨A7, c7, A10, c10, A11, c11, A12, c12, A13, c13, A14, c14, rfl, l7, g7, l10, g10, l11, g11, l12, pt_C g12, l13, pt_C g13, l14, Kd.fix_C g14⟩
theorem kTy_mk (w : World) (x : Ty) {A7 : Option Addr} {c7 : Nat} (l7 : x.c.f5.length ≤ c7) (g7 : kCon.C w A7 x.c.f5.length x.c.f5) {A10 : Option Addr} {c10 : Nat} (l10 : x.ns.length ≤ c10) (g10 : Kd.string.C w A10 x.ns.length x.ns) {A11 : Option Addr} {c11 : Nat} (l11 : x.mo.length ≤ c11) (g11 : Kd.string.C w A11 x.mo.length x.mo) {A12 : Option Addr} {c12 : Nat} (l12 : x.ps.length ≤ c12) (g12 : kPt.C w A12 x.ps.length x.ps) {A13 : Option Addr} {c13 : Nat} (l13 : x.ad.length ≤ c13) (g13 : kPt.C w A13 x.ad.length x.ad) {A14 : Option Addr} {c14 : Nat} (l14 : x.el.length ≤ c14) (g14 : kTy.C w A14 x.el.length x.el) : kTy.K w x [.int .i64 x.k, .string x.n, .int .i64 x.c.f0, .int .i64 x.c.f1, .int .i64 x.c.f2, .bool x.c.f3, .bool x.c.f4, .slice A7 x.c.f5.length c7, .bool x.e, .string x.fr, .slice A10 x.ns.length c10, .slice A11 x.mo.length c11, .slice A12 x.ps.length c12, .slice A13 x.ad.length c13, .slice A14 x.el.length c14] := by
  obtain ⟨n12, q12⟩ := pt_C_back g12
  obtain ⟨n13, q13⟩ := pt_C_back g13
  obtain ⟨n14, q14⟩ := Kd.fix_C_back monoTy g14
  have r12 := q12 (max n12 (max n13 n14)) (by omega)
  have r13 := q13 (max n12 (max n13 n14)) (by omega)
  have r14 := Kd.upto_C_le monoTy szTy (show n14 ≤ max n12 (max n13 n14) by omega) q14
  exact ⟨max n12 (max n13 n14) + 1, ⟨[.int .i64 x.k], _, rfl, rfl, ⟨[.string x.n], _, rfl, rfl, ⟨[.int .i64 x.c.f0, .int .i64 x.c.f1, .int .i64 x.c.f2, .bool x.c.f3, .bool x.c.f4, .slice A7 x.c.f5.length c7], _, rfl, PScopeTwice.k50_mk w x.c l7 g7, ⟨[.bool x.e], _, rfl, rfl, ⟨[.string x.fr], _, rfl, rfl, ⟨[.slice A10 x.ns.length c10], _, rfl, ⟨A10, c10, rfl, l10, g10⟩, ⟨[.slice A11 x.mo.length c11], _, rfl, ⟨A11, c11, rfl, l11, g11⟩, ⟨[.slice A12 x.ps.length c12], _, rfl, ⟨A12, c12, rfl, l12, r12⟩, ⟨[.slice A13 x.ad.length c13], [.slice A14 x.el.length c14], rfl, ⟨A13, c13, rfl, l13, r13⟩, ⟨A14, c14, rfl, l14, r14⟩⟩⟩⟩⟩⟩⟩⟩⟩⟩⟩
/-- A part's cells: its name, its type's, whether it may be left out, its default. -/
theorem kPt_open {x : Pt Ty} {cs : List Value} (h : kPt.K w x cs) : ∃ ts A c, cs = [.string x.n] ++ (ts ++ [.bool x.o, .slice A x.d.length c]) ∧ kTy.K w x.t ts ∧ x.d.length ≤ c ∧ kVal.C w A x.d.length x.d := by
  obtain ⟨_, _, rfl, rfl, ⟨ts, _, rfl, ht, ⟨_, _, rfl, rfl, ⟨A, c, rfl, l, g⟩⟩⟩⟩ := h
  exact ⟨ts, A, c, rfl, ht, l, g⟩
theorem kPt_mk (w : World) (x : Pt Ty) {ts : List Value} (ht : kTy.K w x.t ts) {A : Option Addr} {c : Nat} (l : x.d.length ≤ c) (g : kVal.C w A x.d.length x.d) : kPt.K w x ([.string x.n] ++ (ts ++ [.bool x.o, .slice A x.d.length c])) :=
  ⟨_, _, rfl, rfl, ⟨ts, _, rfl, ht, ⟨[.bool x.o], _, rfl, rfl, ⟨A, c, rfl, l, g⟩⟩⟩⟩
theorem kDf_open {x : Df} {cs : List Value} (h : kDf.K w x cs) : ∃ ts, cs = [.string x.n] ++ ts ∧ kTy.K w x.t ts := by
  obtain ⟨_, ts, rfl, rfl, ht⟩ := h
  exact ⟨ts, rfl, ht⟩
theorem kDf_mk (w : World) (x : Df) {ts : List Value} (ht : kTy.K w x.t ts) : kDf.K w x ([.string x.n] ++ ts) := ⟨_, ts, rfl, rfl, ht⟩
theorem kEn_open {x : En} {cs : List Value} (h : kEn.K w x cs) : ∃ ts, cs = [.string x.m] ++ ([.string x.n] ++ ([.bool x.au] ++ ts)) ∧ kTy.K w x.t ts := by
  obtain ⟨_, _, rfl, rfl, ⟨_, _, rfl, rfl, ⟨_, ts, rfl, rfl, ht⟩⟩⟩ := h
  exact ⟨ts, rfl, ht⟩
theorem kEn_mk (w : World) (x : En) {ts : List Value} (ht : kTy.K w x.t ts) : kEn.K w x ([.string x.m] ++ ([.string x.n] ++ ([.bool x.au] ++ ts))) := ⟨_, _, rfl, rfl, ⟨_, _, rfl, rfl, ⟨_, ts, rfl, rfl, ht⟩⟩⟩
theorem kMd_open {x : Md} {cs : List Value} (h : kMd.K w x cs) : ∃ A2 c2 A3 c3, cs = [.string x.n, .bool x.au, .slice A2 x.im.length c2, .slice A3 x.df.length c3] ∧ x.im.length ≤ c2 ∧ kIm.C w A2 x.im.length x.im ∧ x.df.length ≤ c3 ∧ kDf.C w A3 x.df.length x.df := by
  obtain ⟨_, _, rfl, rfl, ⟨_, _, rfl, rfl, ⟨_, _, rfl, ⟨A2, c2, rfl, l2, g2⟩, ⟨A3, c3, rfl, l3, g3⟩⟩⟩⟩ := h
  exact ⟨A2, c2, A3, c3, rfl, l2, g2, l3, g3⟩
theorem kMd_mk (w : World) (x : Md) {A2 : Option Addr} {c2 : Nat} (l2 : x.im.length ≤ c2) (g2 : kIm.C w A2 x.im.length x.im) {A3 : Option Addr} {c3 : Nat} (l3 : x.df.length ≤ c3) (g3 : kDf.C w A3 x.df.length x.df) : kMd.K w x [.string x.n, .bool x.au, .slice A2 x.im.length c2, .slice A3 x.df.length c3] :=
  ⟨[.string x.n], _, rfl, rfl, ⟨[.bool x.au], _, rfl, rfl, ⟨[.slice A2 x.im.length c2], [.slice A3 x.df.length c3], rfl, ⟨A2, c2, rfl, l2, g2⟩, ⟨A3, c3, rfl, l3, g3⟩⟩⟩⟩
end Go.Proofs.Ytbjddomocggjmaa.Sc
