/- What a parameter of a schema's type reads as. -/
import Derived.Test.YtbjddomocggjmaaGreatLC
section
namespace Go.Proofs.YtbjddomocggjmaaGreat.Sc
open Go.RowKit Go.ChangeShapes Go.WideShapes Go.Proofs.YtbjddomocggjmaaGreat.Open Go.Proofs.YtbjddomocggjmaaGreat.Sep Go.Proofs.YtbjddomocggjmaaGreatW.PrintWords
variable {w : World}
theorem pt_imp {d d' : Kd Ty} (h : ∀ t cs,d.K w t cs → d'.K w t cs) {x : Pt Ty} {cs : List Value} (hK : (FPt d).K w x cs) : (FPt d').K w x cs := by
 obtain ⟨c0,c1,rfl,h0,⟨c2,c3,rfl,h1,h2⟩⟩ := hK
 exact ⟨c0,_,rfl,h0,⟨c2,c3,rfl,h _ _ h1,h2⟩⟩
theorem c_imp1 {α : Type} {d d' : Kd α} (hs : d.sz = d'.sz) {A : Option Addr} {n : Nat} {xs : List α} (h : d.C w A n xs) (hi : ∀ x cs,d.K w x cs → d'.K w x cs) : d'.C w A n xs := by
 obtain ⟨h1,h2,h3⟩ := h
 refine ⟨h1,h2,fun hn => ?_⟩
 obtain ⟨ad,e,hc⟩ := h3 hn
 refine ⟨ad,e,fun j p hp => ?_⟩
 obtain ⟨c,q1,q2,q3⟩ := hc j p hp
 exact ⟨c,q1.trans hs,hi _ _ q2,fun i u hu => by rw [← hs]; exact q3 i u hu⟩
theorem pt_C {n : Nat} {A : Option Addr} {m : Nat} {xs : List (Pt Ty)} (h : (FPt (Kd.upto FTy 15 eTy n)).C w A m xs) : kPt.C w A m xs :=
 c_imp1 (by show 1 + ((Kd.upto FTy 15 eTy n).sz + (1 + 1)) = _; rw [szTy n]; rfl) h fun _ _ hK => pt_imp (d' := kTy) (fun _ _ hT => ⟨n,hT⟩) hK
theorem szPt (n : Nat) : (FPt (Kd.upto FTy 15 eTy n)).sz = 18 := by show 1 + ((Kd.upto FTy 15 eTy n).sz + (1 + 1)) = _; rw [szTy n]
theorem pt_C_back {A : Option Addr} {m : Nat} {xs : List (Pt Ty)} (h : kPt.C w A m xs) : ∃ n, ∀ k,n ≤ k → (FPt (Kd.upto FTy 15 eTy k)).C w A m xs := by
 rcases Nat.eq_zero_or_pos m with hz | hpos
 ·subst hz
  exact ⟨0,fun k _ => ⟨h.1,h.2.1,fun hp => absurd hp (Nat.lt_irrefl 0)⟩⟩
 ·obtain ⟨ad,e,hc⟩ := h.2.2 hpos
  obtain ⟨N,hN⟩ := Kd.bounded (P := fun n j => ∀ p,xs[j]? = some p → ∃ c,c.length = 18 ∧ (FPt (Kd.upto FTy 15 eTy n)).K w p c ∧ ∀ i u,c[i]? = some u → w.cell? (ad.add (j * 18 + i)) = some u)
   (fun n n' j hnm hp p hj => by
    obtain ⟨c,h1,h2,h3⟩ := hp p hj
    exact ⟨c,h1,pt_imp (fun t cs ht => Kd.upto_K_le monoTy szTy hnm ht) h2,h3⟩) xs.length
   (fun j hj => by
    obtain ⟨c,h1,h2,h3⟩ := hc j _ (List.getElem?_eq_getElem hj)
    obtain ⟨c0,c1,rfl,k0,⟨c2,c3,rfl,⟨n,k1⟩,k2⟩⟩ := h2
    refine ⟨n,fun p hp => ?_⟩
    rw [List.getElem?_eq_getElem hj] at hp
    cases hp
    exact ⟨_,h1,⟨c0,_,rfl,k0,⟨c2,c3,rfl,k1,k2⟩⟩,h3⟩)
  refine ⟨N,fun k hk => ⟨h.1,h.2.1,fun _ => ⟨ad,e,fun j p hp => ?_⟩⟩⟩
  obtain ⟨c,h1,h2,h3⟩ := hN j (List.getElem?_eq_some_iff.1 hp).1 p hp
  exact ⟨c,by rw [szPt]; exact h1,pt_imp (fun t cs ht => Kd.upto_K_le monoTy szTy hk ht) h2,fun i u hu => by rw [szPt]; exact h3 i u hu⟩
theorem kTy_open {x : Ty} {cs : List Value} (h : kTy.K w x cs) : ∃ A7 c7 A10 c10 A11 c11 A12 c12 A13 c13 A14 c14,cs = [.int .i64 x.k,.string x.n,.int .i64 x.c.f0,.int .i64 x.c.f1,.int .i64 x.c.f2,.bool x.c.f3,.bool x.c.f4,.slice A7 x.c.f5.length c7,.bool x.e,.string x.fr,.slice A10 x.ns.length c10,.slice A11 x.mo.length c11,.slice A12 x.ps.length c12,.slice A13 x.ad.length c13,.slice A14 x.el.length c14] ∧ x.c.f5.length ≤ c7 ∧ kCon.C w A7 x.c.f5.length x.c.f5 ∧ x.ns.length ≤ c10 ∧ Kd.string.C w A10 x.ns.length x.ns ∧ x.mo.length ≤ c11 ∧ Kd.string.C w A11 x.mo.length x.mo ∧ x.ps.length ≤ c12 ∧ kPt.C w A12 x.ps.length x.ps ∧ x.ad.length ≤ c13 ∧ kPt.C w A13 x.ad.length x.ad ∧ x.el.length ≤ c14 ∧ kTy.C w A14 x.el.length x.el := by
 obtain ⟨n,h⟩ := h
 cases n with
 | zero => exact h.elim
 | succ n =>
  obtain ⟨_,_,rfl,rfl,⟨_,_,rfl,rfl,⟨_,_,rfl,hc,⟨_,_,rfl,rfl,⟨_,_,rfl,rfl,⟨_,_,rfl,⟨A10,c10,rfl,l10,g10⟩,⟨_,_,rfl,⟨A11,c11,rfl,l11,g11⟩,⟨_,_,rfl,⟨A12,c12,rfl,l12,g12⟩,⟨_,_,rfl,⟨A13,c13,rfl,l13,g13⟩,⟨A14,c14,rfl,l14,g14⟩⟩⟩⟩⟩⟩⟩⟩⟩⟩ := h
  obtain ⟨A7,c7,rfl,l7,g7⟩ := PScopeResolves.k33_open hc
  exact ⟨A7,c7,A10,c10,A11,c11,A12,c12,A13,c13,A14,c14,rfl,l7,g7,l10,g10,l11,g11,l12,pt_C g12,l13,pt_C g13,l14,Kd.fix_C g14⟩
theorem kTy_mk (w : World) (x : Ty) {A7 : Option Addr} {c7 : Nat} (l7 : x.c.f5.length ≤ c7) (g7 : kCon.C w A7 x.c.f5.length x.c.f5) {A10 : Option Addr} {c10 : Nat} (l10 : x.ns.length ≤ c10) (g10 : Kd.string.C w A10 x.ns.length x.ns) {A11 : Option Addr} {c11 : Nat} (l11 : x.mo.length ≤ c11) (g11 : Kd.string.C w A11 x.mo.length x.mo) {A12 : Option Addr} {c12 : Nat} (l12 : x.ps.length ≤ c12) (g12 : kPt.C w A12 x.ps.length x.ps) {A13 : Option Addr} {c13 : Nat} (l13 : x.ad.length ≤ c13) (g13 : kPt.C w A13 x.ad.length x.ad) {A14 : Option Addr} {c14 : Nat} (l14 : x.el.length ≤ c14) (g14 : kTy.C w A14 x.el.length x.el) : kTy.K w x [.int .i64 x.k,.string x.n,.int .i64 x.c.f0,.int .i64 x.c.f1,.int .i64 x.c.f2,.bool x.c.f3,.bool x.c.f4,.slice A7 x.c.f5.length c7,.bool x.e,.string x.fr,.slice A10 x.ns.length c10,.slice A11 x.mo.length c11,.slice A12 x.ps.length c12,.slice A13 x.ad.length c13,.slice A14 x.el.length c14] := by
 obtain ⟨n12,q12⟩ := pt_C_back g12
 obtain ⟨n13,q13⟩ := pt_C_back g13
 obtain ⟨n14,q14⟩ := Kd.fix_C_back monoTy g14
 have r12 := q12 (max n12 (max n13 n14)) (by omega)
 have r13 := q13 (max n12 (max n13 n14)) (by omega)
 have r14 := Kd.upto_C_le monoTy szTy (show n14 ≤ max n12 (max n13 n14) by omega) q14
 exact ⟨max n12 (max n13 n14) + 1,⟨[.int .i64 x.k],_,rfl,rfl,⟨[.string x.n],_,rfl,rfl,⟨[.int .i64 x.c.f0,.int .i64 x.c.f1,.int .i64 x.c.f2,.bool x.c.f3,.bool x.c.f4,.slice A7 x.c.f5.length c7],_,rfl,PScopeResolves.k33_mk w x.c l7 g7,⟨[.bool x.e],_,rfl,rfl,⟨[.string x.fr],_,rfl,rfl,⟨[.slice A10 x.ns.length c10],_,rfl,⟨A10,c10,rfl,l10,g10⟩,⟨[.slice A11 x.mo.length c11],_,rfl,⟨A11,c11,rfl,l11,g11⟩,⟨[.slice A12 x.ps.length c12],_,rfl,⟨A12,c12,rfl,l12,r12⟩,⟨[.slice A13 x.ad.length c13],[.slice A14 x.el.length c14],rfl,⟨A13,c13,rfl,l13,r13⟩,⟨A14,c14,rfl,l14,r14⟩⟩⟩⟩⟩⟩⟩⟩⟩⟩⟩
theorem kPt_open {x : Pt Ty} {cs : List Value} (h : kPt.K w x cs) : ∃ ts A c,cs = [.string x.n] ++ (ts ++ [.bool x.o,.slice A x.d.length c]) ∧ kTy.K w x.t ts ∧ x.d.length ≤ c ∧ kVal.C w A x.d.length x.d := by
 obtain ⟨_,_,rfl,rfl,⟨ts,_,rfl,ht,⟨_,_,rfl,rfl,⟨A,c,rfl,l,g⟩⟩⟩⟩ := h
 exact ⟨ts,A,c,rfl,ht,l,g⟩
theorem kPt_mk (w : World) (x : Pt Ty) {ts : List Value} (ht : kTy.K w x.t ts) {A : Option Addr} {c : Nat} (l : x.d.length ≤ c) (g : kVal.C w A x.d.length x.d) : kPt.K w x ([.string x.n] ++ (ts ++ [.bool x.o,.slice A x.d.length c])) :=
 ⟨_,_,rfl,rfl,⟨ts,_,rfl,ht,⟨[.bool x.o],_,rfl,rfl,⟨A,c,rfl,l,g⟩⟩⟩⟩
theorem kDf_open {x : Df} {cs : List Value} (h : kDf.K w x cs) : ∃ ts,cs = [.string x.n] ++ ts ∧ kTy.K w x.t ts := by
 obtain ⟨_,ts,rfl,rfl,ht⟩ := h
 exact ⟨ts,rfl,ht⟩
theorem kDf_mk (w : World) (x : Df) {ts : List Value} (ht : kTy.K w x.t ts) : kDf.K w x ([.string x.n] ++ ts) := ⟨_,ts,rfl,rfl,ht⟩
theorem kEn_open {x : En} {cs : List Value} (h : kEn.K w x cs) : ∃ ts,cs = [.string x.m] ++ ([.string x.n] ++ ([.bool x.au] ++ ts)) ∧ kTy.K w x.t ts := by
 obtain ⟨_,_,rfl,rfl,⟨_,_,rfl,rfl,⟨_,ts,rfl,rfl,ht⟩⟩⟩ := h
 exact ⟨ts,rfl,ht⟩
theorem kEn_mk (w : World) (x : En) {ts : List Value} (ht : kTy.K w x.t ts) : kEn.K w x ([.string x.m] ++ ([.string x.n] ++ ([.bool x.au] ++ ts))) := ⟨_,_,rfl,rfl,⟨_,_,rfl,rfl,⟨_,ts,rfl,rfl,ht⟩⟩⟩
theorem kMd_open {x : Md} {cs : List Value} (h : kMd.K w x cs) : ∃ A2 c2 A3 c3,cs = [.string x.n,.bool x.au,.slice A2 x.im.length c2,.slice A3 x.df.length c3] ∧ x.im.length ≤ c2 ∧ kIm.C w A2 x.im.length x.im ∧ x.df.length ≤ c3 ∧ kDf.C w A3 x.df.length x.df := by
 obtain ⟨_,_,rfl,rfl,⟨_,_,rfl,rfl,⟨_,_,rfl,⟨A2,c2,rfl,l2,g2⟩,⟨A3,c3,rfl,l3,g3⟩⟩⟩⟩ := h
 exact ⟨A2,c2,A3,c3,rfl,l2,g2,l3,g3⟩
theorem kMd_mk (w : World) (x : Md) {A2 : Option Addr} {c2 : Nat} (l2 : x.im.length ≤ c2) (g2 : kIm.C w A2 x.im.length x.im) {A3 : Option Addr} {c3 : Nat} (l3 : x.df.length ≤ c3) (g3 : kDf.C w A3 x.df.length x.df) : kMd.K w x [.string x.n,.bool x.au,.slice A2 x.im.length c2,.slice A3 x.df.length c3] :=
 ⟨[.string x.n],_,rfl,rfl,⟨[.bool x.au],_,rfl,rfl,⟨[.slice A2 x.im.length c2],[.slice A3 x.df.length c3],rfl,⟨A2,c2,rfl,l2,g2⟩,⟨A3,c3,rfl,l3,g3⟩⟩⟩⟩
end Go.Proofs.YtbjddomocggjmaaGreat.Sc
end
section
namespace Go.Proofs.YtbjddomocggjmaaGreat.Sc
open Go.RowKit Go.ChangeShapes Go.WideShapes Go.Proofs.YtbjddomocggjmaaGreat.Open Go.Proofs.YtbjddomocggjmaaGreat.Sep Go.Proofs.YtbjddomocggjmaaGreatW.PrintWords
def oS (s : ByteArray) : Prop := s.size ≤ M
def oL {α : Type} (l : List α) : Prop := l.length ≤ M
def oC : Nat → Con → Prop
 | 0,_ => True
 | d + 1,c => i64 c.f0 ∧ i64 c.f1 ∧ i64 c.f2 ∧ c.f5.length * 56 ≤ M ∧ ∀ x ∈ c.f5,oC d x
def oV : Nat → Val → Prop
 | 0,_ => True
 | d + 1,v => i64 v.f0 ∧ i64 v.f1 ∧ oS v.f2 ∧ oL v.f3 ∧ (∀ s ∈ v.f3,oS s) ∧ oL v.f4 ∧ ∀ x ∈ v.f4,oV d x
def oPt (p : Ty → Prop) (x : Pt Ty) : Prop := oS x.n ∧ p x.t ∧ oL x.d ∧ ∀ v ∈ x.d, ∀ d,oV d v
def oT : Nat → Ty → Prop
 | 0,_ => True
 | d + 1,t => i64 t.k ∧ oS t.n ∧ (∀ d,oC d t.c) ∧ oS t.fr ∧ (oL t.ns ∧ ∀ s ∈ t.ns,oS s) ∧ (oL t.mo ∧ ∀ s ∈ t.mo,oS s) ∧ (oL t.ps ∧ ∀ p ∈ t.ps,oPt (oT d) p) ∧ (oL t.ad ∧ ∀ p ∈ t.ad,oPt (oT d) p) ∧ oL t.el ∧ ∀ x ∈ t.el,oT d x
def oTy (t : Ty) : Prop := ∀ d,oT d t
def oDf (x : Df) : Prop := oS x.n ∧ oTy x.t
def oIm (x : Im) : Prop := oL x.f0 ∧ (∀ s ∈ x.f0,oS s) ∧ oS x.f1
def oMd (x : Md) : Prop := oS x.n ∧ (oL x.im ∧ ∀ y ∈ x.im,oIm y) ∧ oL x.df ∧ ∀ y ∈ x.df,oDf y
theorem len15 {α : Type} {l : List α} (h : l.length = 15) : ∃ a0 a1 a2 a3 a4 a5 a6 a7 a8 a9 a10 a11 a12 a13 a14,l = [a0,a1,a2,a3,a4,a5,a6,a7,a8,a9,a10,a11,a12,a13,a14] := by
 match l,h with
 | [a0,a1,a2,a3,a4,a5,a6,a7,a8,a9,a10,a11,a12,a13,a14],_ => exact ⟨a0,a1,a2,a3,a4,a5,a6,a7,a8,a9,a10,a11,a12,a13,a14,rfl⟩
set_option maxRecDepth 4000 in
theorem len16 {α : Type} {l : List α} (h : l.length = 16) : ∃ a0 a1 a2 a3 a4 a5 a6 a7 a8 a9 a10 a11 a12 a13 a14 a15,l = [a0,a1,a2,a3,a4,a5,a6,a7,a8,a9,a10,a11,a12,a13,a14,a15] := by
 match l,h with
 | [a0,a1,a2,a3,a4,a5,a6,a7,a8,a9,a10,a11,a12,a13,a14,a15],_ => exact ⟨a0,a1,a2,a3,a4,a5,a6,a7,a8,a9,a10,a11,a12,a13,a14,a15,rfl⟩
set_option maxRecDepth 4000 in
theorem len18 {α : Type} {l : List α} (h : l.length = 18) : ∃ a0 a1 a2 a3 a4 a5 a6 a7 a8 a9 a10 a11 a12 a13 a14 a15 a16 a17,l = [a0,a1,a2,a3,a4,a5,a6,a7,a8,a9,a10,a11,a12,a13,a14,a15,a16,a17] := by
 match l,h with
 | [a0,a1,a2,a3,a4,a5,a6,a7,a8,a9,a10,a11,a12,a13,a14,a15,a16,a17],_ => exact ⟨a0,a1,a2,a3,a4,a5,a6,a7,a8,a9,a10,a11,a12,a13,a14,a15,a16,a17,rfl⟩
theorem len6 {α : Type} {l : List α} (h : l.length = 6) : ∃ a0 a1 a2 a3 a4 a5,l = [a0,a1,a2,a3,a4,a5] := by
 match l,h with
 | [a0,a1,a2,a3,a4,a5],_ => exact ⟨a0,a1,a2,a3,a4,a5,rfl⟩
section
variable {H : Type} {enc : TypeId × Value → H} {W : World} {base : Nat} {spare : Nat → Bool} {held : Bool}
theorem open_str1 (fuel : Nat) (cs : List Value) (x : DataW H × List MemPlace) (h : DataW.trod enc Tryz.prog W base spare held fuel 9 cs = some x) (hw : (x.1.weights Tryz.prog 9).all (· ≤ reachBytes) = true) :
  ∃ s : ByteArray,Kd.string.K W s cs ∧ oS s := by
 obtain ⟨s,rfl,v⟩ := open_strW Tryz.underlying9 h hw
 exact ⟨s,rfl,v⟩
theorem open_con (fuel : Nat) : ∀ (cs : List Value) (x : DataW H × List MemPlace),cs.length = 6 → DataW.trod enc Tryz.prog W base spare held fuel 33 cs = some x → (x.1.weights Tryz.prog 33).all (· ≤ reachBytes) = true →
  ∃ a : Con,kCon.K W a cs ∧ ∀ d,oC d a := by
 induction fuel using Nat.strongRecOn with
 | ind fuel ih =>
  intro cs x hl h hw
  obtain ⟨xs,m,hm,rfl,_,hxl,hx⟩ := DataW.trod_struct Tryz.underlying33 h
  obtain ⟨c0,c1,c2,c3,c4,c5,rfl⟩ := len6 hl
  obtain ⟨y0,h0,w0⟩ := open_fieldW Tryz.underlying33 hx hxl hw 0 _ rfl rfl (n := 1) (by kernel_rfl)
  obtain ⟨y1,h1,w1⟩ := open_fieldW Tryz.underlying33 hx hxl hw 1 _ rfl rfl (n := 1) (by kernel_rfl)
  obtain ⟨y2,h2,w2⟩ := open_fieldW Tryz.underlying33 hx hxl hw 2 _ rfl rfl (n := 1) (by kernel_rfl)
  obtain ⟨y3,h3,w3⟩ := open_fieldW Tryz.underlying33 hx hxl hw 3 _ rfl rfl (n := 1) (by kernel_rfl)
  obtain ⟨y4,h4,w4⟩ := open_fieldW Tryz.underlying33 hx hxl hw 4 _ rfl rfl (n := 1) (by kernel_rfl)
  obtain ⟨y5,h5,w5⟩ := open_fieldW Tryz.underlying33 hx hxl hw 5 _ rfl rfl (n := 1) (by kernel_rfl)
  obtain ⟨n0,e0, -,v0⟩ := DataW.trod_int Tryz.underlying3 h0
  obtain ⟨n1,e1, -,v1⟩ := DataW.trod_int Tryz.underlying3 h1
  obtain ⟨n2,e2, -,v2⟩ := DataW.trod_int Tryz.underlying3 h2
  obtain ⟨n3,e3, -⟩ := DataW.trod_bool Tryz.underlying4 h3
  obtain ⟨n4,e4, -⟩ := DataW.trod_bool Tryz.underlying4 h4
  obtain ⟨l5,hL5,b5⟩ := open_listW (K := fun W cs x => kCon.K W x cs ∧ ∀ d,oC d x) (size := 6) (Bt := 56) Tryz.underlying31 (by kernel_rfl) (by decide) (by kernel_rfl) (fun n hn cs y hl hy hw => ih n (by omega) cs y hl hy hw) (v := c5) h5 w5
  have e0' : c0 = .int .i64 n0 := by simpa using e0
  have e1' : c1 = .int .i64 n1 := by simpa using e1
  have e2' : c2 = .int .i64 n2 := by simpa using e2
  have e3' : c3 = .bool n3 := by simpa using e3
  have e4' : c4 = .bool n4 := by simpa using e4
  subst e0' e1' e2' e3' e4'
  obtain ⟨A5,p5,rfl, -⟩ := id hL5
  obtain ⟨-,g5, -,k5,o5⟩ := c_of_slice (d := kCon) rfl hL5
  refine ⟨⟨n0,n1,n2,n3,n4,l5⟩,PScopeResolves.k33_mk W ⟨n0,n1,n2,n3,n4,l5⟩ g5 k5,fun d => ?_⟩
  cases d with
  | zero => trivial
  | succ d => exact ⟨wf_i64 v0,wf_i64 v1,wf_i64 v2,b5,fun x hx => o5 x hx d⟩
theorem open_val (fuel : Nat) : ∀ (cs : List Value) (x : DataW H × List MemPlace),cs.length = 5 → DataW.trod enc Tryz.prog W base spare held fuel 109 cs = some x → (x.1.weights Tryz.prog 109).all (· ≤ reachBytes) = true →
  ∃ a : Val,kVal.K W a cs ∧ ∀ d,oV d a := by
 induction fuel using Nat.strongRecOn with
 | ind fuel ih =>
  intro cs x hl h hw
  obtain ⟨xs,m,hm,rfl,_,hxl,hx⟩ := DataW.trod_struct Tryz.underlying109 h
  obtain ⟨c0,c1,c2,c3,c4,rfl⟩ := len5 hl
  obtain ⟨y0,h0,w0⟩ := open_fieldW Tryz.underlying109 hx hxl hw 0 _ rfl rfl (n := 1) (by kernel_rfl)
  obtain ⟨y1,h1,w1⟩ := open_fieldW Tryz.underlying109 hx hxl hw 1 _ rfl rfl (n := 1) (by kernel_rfl)
  obtain ⟨y2,h2,w2⟩ := open_fieldW Tryz.underlying109 hx hxl hw 2 _ rfl rfl (n := 1) (by kernel_rfl)
  obtain ⟨y3,h3,w3⟩ := open_fieldW Tryz.underlying109 hx hxl hw 3 _ rfl rfl (n := 1) (by kernel_rfl)
  obtain ⟨y4,h4,w4⟩ := open_fieldW Tryz.underlying109 hx hxl hw 4 _ rfl rfl (n := 1) (by kernel_rfl)
  obtain ⟨n0,e0, -,v0⟩ := DataW.trod_int Tryz.underlying3 h0
  obtain ⟨n1,e1, -,v1⟩ := DataW.trod_int Tryz.underlying3 h1
  obtain ⟨n2,e2,v2⟩ := open_strW Tryz.underlying9 h2 w2
  obtain ⟨l3,hL3,b3⟩ := open_listW (K := fun W cs x => Kd.string.K W x cs ∧ oS x) (size := 1) (Bt := 16) Tryz.underlying34 (by kernel_rfl) (by decide) (by kernel_rfl) (fun n _ cs y _ hy hw => open_str1 n cs y hy hw) (v := c3) h3 w3
  obtain ⟨l4,hL4,b4⟩ := open_listW (K := fun W cs x => kVal.K W x cs ∧ ∀ d,oV d x) (size := 5) (Bt := 80) Tryz.underlying81 (by kernel_rfl) (by decide) (by kernel_rfl) (fun n hn cs y hl hy hw => ih n (by omega) cs y hl hy hw) (v := c4) h4 w4
  have e0' : c0 = .int .i64 n0 := by simpa using e0
  have e1' : c1 = .int .i64 n1 := by simpa using e1
  have e2' : c2 = .string n2 := by simpa using e2
  subst e0' e1' e2'
  obtain ⟨A3,p3,rfl, -⟩ := id hL3
  obtain ⟨-,g3, -,k3,o3⟩ := c_of_slice (d := Kd.string) rfl hL3
  obtain ⟨A4,p4,rfl, -⟩ := id hL4
  obtain ⟨-,g4, -,k4,o4⟩ := c_of_slice (d := kVal) rfl hL4
  refine ⟨⟨n0,n1,n2,l3,l4⟩,PScopeResolves.k109_mk W ⟨n0,n1,n2,l3,l4⟩ g3 k3 g4 k4,fun d => ?_⟩
  cases d with
  | zero => trivial
  | succ d => exact ⟨wf_i64 v0,wf_i64 v1,v2,by show l3.length ≤ M; omega,o3,by show l4.length ≤ M; omega,fun x hx => o4 x hx d⟩
theorem open_pt (fuel : Nat) (ih : ∀ n,n < fuel → ∀ (cs : List Value) (x : DataW H × List MemPlace),cs.length = 15 → DataW.trod enc Tryz.prog W base spare held n 38 cs = some x → (x.1.weights Tryz.prog 38).all (· ≤ reachBytes) = true → ∃ a : Ty,kTy.K W a cs ∧ oTy a) (cs : List Value) (x : DataW H × List MemPlace) (hl : cs.length = 18) (h : DataW.trod enc Tryz.prog W base spare held fuel 83 cs = some x) (hw : (x.1.weights Tryz.prog 83).all (· ≤ reachBytes) = true) :
  ∃ a : Pt Ty,kPt.K W a cs ∧ oPt oTy a := by
 obtain ⟨xs,m,hm,rfl,_,hxl,hx⟩ := DataW.trod_struct Tryz.underlying83 h
 obtain ⟨y0,h0,w0⟩ := open_fieldW Tryz.underlying83 hx hxl hw 0 _ rfl rfl (n := 1) (by kernel_rfl)
 obtain ⟨y1,h1,w1⟩ := open_fieldW Tryz.underlying83 hx hxl hw 1 _ rfl rfl (n := 15) (by kernel_rfl)
 obtain ⟨y2,h2,w2⟩ := open_fieldW Tryz.underlying83 hx hxl hw 2 _ rfl rfl (n := 1) (by kernel_rfl)
 obtain ⟨y3,h3,w3⟩ := open_fieldW Tryz.underlying83 hx hxl hw 3 _ rfl rfl (n := 1) (by kernel_rfl)
 obtain ⟨n0,e0,v0⟩ := open_strW Tryz.underlying9 h0 w0
 obtain ⟨t1,kt,ot⟩ := ih m (by omega) _ y1 (by rw [List.length_take,List.length_drop,hl]; rfl) h1 w1
 obtain ⟨n2,e2, -⟩ := DataW.trod_bool Tryz.underlying4 h2
 obtain ⟨c0,a1,a2,a3,a4,a5,a6,a7,a8,a9,a10,a11,a12,a13,a14,a15,c2,c3,rfl⟩ := len18 hl
 obtain ⟨l3,hL3,b3⟩ := open_listW (K := fun W cs x => kVal.K W x cs ∧ ∀ d,oV d x) (size := 5) (Bt := 80) Tryz.underlying81 (by kernel_rfl) (by decide) (by kernel_rfl) (fun n _ cs y hl hy hw => open_val n cs y hl hy hw) (v := c3) h3 w3
 have e0' : c0 = .string n0 := by simpa using e0
 have e2' : c2 = .bool n2 := by simpa using e2
 subst e0' e2'
 obtain ⟨A3,p3,rfl, -⟩ := id hL3
 obtain ⟨-,g3, -,k3,o3⟩ := c_of_slice (d := kVal) rfl hL3
 exact ⟨⟨n0,t1,n2,l3⟩,kPt_mk W ⟨n0,t1,n2,l3⟩ kt g3 k3,v0,ot,by show l3.length ≤ M; omega,o3⟩
theorem open_ty (fuel : Nat) : ∀ (cs : List Value) (x : DataW H × List MemPlace),cs.length = 15 → DataW.trod enc Tryz.prog W base spare held fuel 38 cs = some x → (x.1.weights Tryz.prog 38).all (· ≤ reachBytes) = true →
  ∃ a : Ty,kTy.K W a cs ∧ oTy a := by
 induction fuel using Nat.strongRecOn with
 | ind fuel ih =>
  intro cs x hl h hw
  obtain ⟨xs,m,hm,rfl,_,hxl,hx⟩ := DataW.trod_struct Tryz.underlying38 h
  obtain ⟨y0,h0,w0⟩ := open_fieldW Tryz.underlying38 hx hxl hw 0 _ rfl rfl (n := 1) (by kernel_rfl)
  obtain ⟨y1,h1,w1⟩ := open_fieldW Tryz.underlying38 hx hxl hw 1 _ rfl rfl (n := 1) (by kernel_rfl)
  obtain ⟨y2,h2,w2⟩ := open_fieldW Tryz.underlying38 hx hxl hw 2 _ rfl rfl (n := 6) (by kernel_rfl)
  obtain ⟨y3,h3,w3⟩ := open_fieldW Tryz.underlying38 hx hxl hw 3 _ rfl rfl (n := 1) (by kernel_rfl)
  obtain ⟨y4,h4,w4⟩ := open_fieldW Tryz.underlying38 hx hxl hw 4 _ rfl rfl (n := 1) (by kernel_rfl)
  obtain ⟨y5,h5,w5⟩ := open_fieldW Tryz.underlying38 hx hxl hw 5 _ rfl rfl (n := 1) (by kernel_rfl)
  obtain ⟨y6,h6,w6⟩ := open_fieldW Tryz.underlying38 hx hxl hw 6 _ rfl rfl (n := 1) (by kernel_rfl)
  obtain ⟨y7,h7,w7⟩ := open_fieldW Tryz.underlying38 hx hxl hw 7 _ rfl rfl (n := 1) (by kernel_rfl)
  obtain ⟨y8,h8,w8⟩ := open_fieldW Tryz.underlying38 hx hxl hw 8 _ rfl rfl (n := 1) (by kernel_rfl)
  obtain ⟨y9,h9,w9⟩ := open_fieldW Tryz.underlying38 hx hxl hw 9 _ rfl rfl (n := 1) (by kernel_rfl)
  obtain ⟨n0,e0, -,v0⟩ := DataW.trod_int Tryz.underlying3 h0
  obtain ⟨n1,e1,v1⟩ := open_strW Tryz.underlying9 h1 w1
  obtain ⟨c2,kc,oc⟩ := open_con m _ y2 (by rw [List.length_take,List.length_drop,hl]; rfl) h2 w2
  obtain ⟨n3,e3, -⟩ := DataW.trod_bool Tryz.underlying4 h3
  obtain ⟨n4,e4,v4⟩ := open_strW Tryz.underlying9 h4 w4
  obtain ⟨a0,a1,a2,a3,a4,a5,a6,a7,a8,a9,a10,a11,a12,a13,a14,rfl⟩ := len15 hl
  obtain ⟨l5,hL5,b5⟩ := open_listW (K := fun W cs x => Kd.string.K W x cs ∧ oS x) (size := 1) (Bt := 16) Tryz.underlying34 (by kernel_rfl) (by decide) (by kernel_rfl) (fun n _ cs y _ hy hw => open_str1 n cs y hy hw) (v := a10) h5 w5
  obtain ⟨l6,hL6,b6⟩ := open_listW (K := fun W cs x => Kd.string.K W x cs ∧ oS x) (size := 1) (Bt := 16) Tryz.underlying34 (by kernel_rfl) (by decide) (by kernel_rfl) (fun n _ cs y _ hy hw => open_str1 n cs y hy hw) (v := a11) h6 w6
  obtain ⟨l7,hL7,b7⟩ := open_listW (K := fun W cs x => kPt.K W x cs ∧ oPt oTy x) (size := 18) (Bt := 272) Tryz.underlying35 (by kernel_rfl) (by decide) (by kernel_rfl) (fun n hn cs y hl hy hw => open_pt n (fun k hk => ih k (by omega)) cs y hl hy hw) (v := a12) h7 w7
  obtain ⟨l8,hL8,b8⟩ := open_listW (K := fun W cs x => kPt.K W x cs ∧ oPt oTy x) (size := 18) (Bt := 272) Tryz.underlying35 (by kernel_rfl) (by decide) (by kernel_rfl) (fun n hn cs y hl hy hw => open_pt n (fun k hk => ih k (by omega)) cs y hl hy hw) (v := a13) h8 w8
  obtain ⟨l9,hL9,b9⟩ := open_listW (K := fun W cs x => kTy.K W x cs ∧ oTy x) (size := 15) (Bt := 224) Tryz.underlying36 (by kernel_rfl) (by decide) (by kernel_rfl) (fun n hn cs y hl hy hw => ih n (by omega) cs y hl hy hw) (v := a14) h9 w9
  have e0' : a0 = .int .i64 n0 := by simpa using e0
  have e1' : a1 = .string n1 := by simpa using e1
  have e3' : a8 = .bool n3 := by simpa using e3
  have e4' : a9 = .string n4 := by simpa using e4
  subst e0' e1' e3' e4'
  obtain ⟨A5,p5,rfl, -⟩ := id hL5
  obtain ⟨-,g5, -,k5,o5⟩ := c_of_slice (d := Kd.string) rfl hL5
  obtain ⟨A6,p6,rfl, -⟩ := id hL6
  obtain ⟨-,g6, -,k6,o6⟩ := c_of_slice (d := Kd.string) rfl hL6
  obtain ⟨A7,p7,rfl, -⟩ := id hL7
  obtain ⟨-,g7, -,k7,o7⟩ := c_of_slice (d := kPt) rfl hL7
  obtain ⟨A8,p8,rfl, -⟩ := id hL8
  obtain ⟨-,g8, -,k8,o8⟩ := c_of_slice (d := kPt) rfl hL8
  obtain ⟨A9,p9,rfl, -⟩ := id hL9
  obtain ⟨-,g9, -,k9,o9⟩ := c_of_slice (d := kTy) rfl hL9
  obtain ⟨A2,p2,e2,g2,k2⟩ := PScopeResolves.k33_open kc
  have e2' : [a2,a3,a4,a5,a6,a7] = [.int .i64 c2.f0,.int .i64 c2.f1,.int .i64 c2.f2,.bool c2.f3,.bool c2.f4,.slice A2 c2.f5.length p2] := e2
  simp only [List.cons.injEq,and_true] at e2'
  obtain ⟨rfl,rfl,rfl,rfl,rfl,rfl⟩ := e2'
  refine ⟨⟨n0,n1,c2,n3,n4,l5,l6,l7,l8,l9⟩,kTy_mk W ⟨n0,n1,c2,n3,n4,l5,l6,l7,l8,l9⟩ g2 k2 g5 k5 g6 k6 g7 k7 g8 k8 g9 k9,fun d => ?_⟩
  cases d with
  | zero => trivial
  | succ d =>
   exact ⟨wf_i64 v0,v1,oc,v4,⟨by show l5.length ≤ M; omega,o5⟩,⟨by show l6.length ≤ M; omega,o6⟩,⟨by show l7.length ≤ M; omega,fun p hp => ⟨(o7 p hp).1,(o7 p hp).2.1 d,(o7 p hp).2.2⟩⟩,⟨by show l8.length ≤ M; omega,fun p hp => ⟨(o8 p hp).1,(o8 p hp).2.1 d,(o8 p hp).2.2⟩⟩,by show l9.length ≤ M; omega,fun x hx => o9 x hx d⟩
theorem open_im (fuel : Nat) (cs : List Value) (x : DataW H × List MemPlace) (hl : cs.length = 2) (h : DataW.trod enc Tryz.prog W base spare held fuel 50 cs = some x) (hw : (x.1.weights Tryz.prog 50).all (· ≤ reachBytes) = true) :
  ∃ a : Im,kIm.K W a cs ∧ oIm a := by
 obtain ⟨xs,m,hm,rfl,_,hxl,hx⟩ := DataW.trod_struct Tryz.underlying50 h
 obtain ⟨c0,c1,rfl⟩ := len2 hl
 obtain ⟨y0,h0,w0⟩ := open_fieldW Tryz.underlying50 hx hxl hw 0 _ rfl rfl (n := 1) (by kernel_rfl)
 obtain ⟨y1,h1,w1⟩ := open_fieldW Tryz.underlying50 hx hxl hw 1 _ rfl rfl (n := 1) (by kernel_rfl)
 obtain ⟨l0,hL0,b0⟩ := open_listW (K := fun W cs x => Kd.string.K W x cs ∧ oS x) (size := 1) (Bt := 16) Tryz.underlying34 (by kernel_rfl) (by decide) (by kernel_rfl) (fun n _ cs y _ hy hw => open_str1 n cs y hy hw) (v := c0) h0 w0
 obtain ⟨n1,e1,v1⟩ := open_strW Tryz.underlying9 h1 w1
 have e1' : c1 = .string n1 := by simpa using e1
 subst e1'
 obtain ⟨A0,p0,rfl, -⟩ := id hL0
 obtain ⟨-,g0, -,k0,o0⟩ := c_of_slice (d := Kd.string) rfl hL0
 exact ⟨⟨l0,n1⟩,PScopeResolves.k50_mk W ⟨l0,n1⟩ g0 k0,by show l0.length ≤ M; omega,o0,v1⟩
theorem open_df (fuel : Nat) (cs : List Value) (x : DataW H × List MemPlace) (hl : cs.length = 16) (h : DataW.trod enc Tryz.prog W base spare held fuel 40 cs = some x) (hw : (x.1.weights Tryz.prog 40).all (· ≤ reachBytes) = true) :
  ∃ a : Df,kDf.K W a cs ∧ oDf a := by
 obtain ⟨xs,m,hm,rfl,_,hxl,hx⟩ := DataW.trod_struct Tryz.underlying40 h
 obtain ⟨y0,h0,w0⟩ := open_fieldW Tryz.underlying40 hx hxl hw 0 _ rfl rfl (n := 1) (by kernel_rfl)
 obtain ⟨y1,h1,w1⟩ := open_fieldW Tryz.underlying40 hx hxl hw 1 _ rfl rfl (n := 15) (by kernel_rfl)
 obtain ⟨n0,e0,v0⟩ := open_strW Tryz.underlying9 h0 w0
 obtain ⟨t1,kt,ot⟩ := open_ty m _ y1 (by rw [List.length_take,List.length_drop,hl]; rfl) h1 w1
 obtain ⟨c0,a1,a2,a3,a4,a5,a6,a7,a8,a9,a10,a11,a12,a13,a14,a15,rfl⟩ := len16 hl
 have e0' : c0 = .string n0 := by simpa using e0
 subst e0'
 exact ⟨⟨n0,t1⟩,kDf_mk W ⟨n0,t1⟩ kt,v0,ot⟩
theorem open_md (fuel : Nat) (cs : List Value) (x : DataW H × List MemPlace) (hl : cs.length = 4) (h : DataW.trod enc Tryz.prog W base spare held fuel 44 cs = some x) (hw : (x.1.weights Tryz.prog 44).all (· ≤ reachBytes) = true) :
  ∃ a : Md,kMd.K W a cs ∧ oMd a := by
 obtain ⟨xs,m,hm,rfl,_,hxl,hx⟩ := DataW.trod_struct Tryz.underlying44 h
 obtain ⟨c0,c1,c2,c3,rfl⟩ := len4 hl
 obtain ⟨y0,h0,w0⟩ := open_fieldW Tryz.underlying44 hx hxl hw 0 _ rfl rfl (n := 1) (by kernel_rfl)
 obtain ⟨y1,h1,w1⟩ := open_fieldW Tryz.underlying44 hx hxl hw 1 _ rfl rfl (n := 1) (by kernel_rfl)
 obtain ⟨y2,h2,w2⟩ := open_fieldW Tryz.underlying44 hx hxl hw 2 _ rfl rfl (n := 1) (by kernel_rfl)
 obtain ⟨y3,h3,w3⟩ := open_fieldW Tryz.underlying44 hx hxl hw 3 _ rfl rfl (n := 1) (by kernel_rfl)
 obtain ⟨n0,e0,v0⟩ := open_strW Tryz.underlying9 h0 w0
 obtain ⟨n1,e1, -⟩ := DataW.trod_bool Tryz.underlying4 h1
 obtain ⟨l2,hL2,b2⟩ := open_listW (K := fun W cs x => kIm.K W x cs ∧ oIm x) (size := 2) (Bt := 40) Tryz.underlying42 (by kernel_rfl) (by decide) (by kernel_rfl) (fun n _ cs y hl hy hw => open_im n cs y hl hy hw) (v := c2) h2 w2
 obtain ⟨l3,hL3,b3⟩ := open_listW (K := fun W cs x => kDf.K W x cs ∧ oDf x) (size := 16) (Bt := 240) Tryz.underlying41 (by kernel_rfl) (by decide) (by kernel_rfl) (fun n _ cs y hl hy hw => open_df n cs y hl hy hw) (v := c3) h3 w3
 have e0' : c0 = .string n0 := by simpa using e0
 have e1' : c1 = .bool n1 := by simpa using e1
 subst e0' e1'
 obtain ⟨A2,p2,rfl, -⟩ := id hL2
 obtain ⟨-,g2, -,k2,o2⟩ := c_of_slice (d := kIm) rfl hL2
 obtain ⟨A3,p3,rfl, -⟩ := id hL3
 obtain ⟨-,g3, -,k3,o3⟩ := c_of_slice (d := kDf) rfl hL3
 exact ⟨⟨n0,n1,l2,l3⟩,kMd_mk W ⟨n0,n1,l2,l3⟩ g2 k2 g3 k3,v0,⟨by show l2.length ≤ M; omega,o2⟩,by show l3.length ≤ M; omega,o3⟩
end
end Go.Proofs.YtbjddomocggjmaaGreat.Sc
end
