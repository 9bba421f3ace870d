/- few, Few of the reference of layer 8: they come to an end. -/
import Derived.Test.YtbjddomocggjmaaGreatLS
section
namespace Go.Proofs.YtbjddomocggjmaaGreat.Sc
open Go.RowKit Go.ChangeShapes Go.WideShapes Go.Proofs.YtbjddomocggjmaaGreat.Sep
open Go.Proofs.YtbjddomocggjmaaGreatW.PrintWords
variable {B : Nat} {w0 w : World} {R : HP}
def FewCAt (w0 : World) (n : Nat) : Prop := ∀ c : Con,SizeOf.sizeOf c < n → ∀ (W : World) (Q : HP) (cs : List Value) (left : Int),S w0 W Q → kCon.K w0 c cs → Calls Tryz.prog 52 #[.agg cs.toArray,.int .i64 left] W fun e w' => ∃ r,e = .returned (.int .i64 r) ∧ S w0 w' Q
theorem con_small {c x : Con} (h : x ∈ c.f5) : SizeOf.sizeOf x < SizeOf.sizeOf c := by
 cases c
 have := List.sizeOf_lt_of_mem h
 simp only [PScopeResolves.S33.mk.sizeOf_spec]
 dsimp only at this
 omega
theorem val_small {v : Val} {l : List Val} (h : v ∈ l) : SizeOf.sizeOf v.f4 < SizeOf.sizeOf l := by
 have h1 := List.sizeOf_lt_of_mem h
 cases v
 simp only [PScopeResolves.S109.mk.sizeOf_spec] at h1
 dsimp only
 omega
set_option maxHeartbeats 16000000 in
set_option maxRecDepth 100000 in
theorem fewc_at (n : Nat) : FewCAt w0 n := by
 induction n with
 | zero => intro c h; omega
 | succ n ih =>
  intro c hc W Q cs left h hK
  obtain ⟨A5,c5,rfl,l5,g5⟩ := PScopeResolves.k33_open hK
  have hl : c.f5.length ≤ 9223372036854775807 := g5.2.1
  have HI := Lib.hid (And.intro ih (And.intro hc g5))
  show Calls Tryz.prog 52 #[.agg #[.int .i64 c.f0,.int .i64 c.f1,.int .i64 c.f2,.bool c.f3,.bool c.f4,.slice A5 c.f5.length c5],.int .i64 left] W _
  generalize hg : W.heap.size = g
  have H := Lib.hid (alloc_at (n := g) h (.cells #[.int .i64 c.f0,.int .i64 c.f1,.int .i64 c.f2,.bool c.f3,.bool c.f4,.slice A5 c.f5.length c5] 33) hg.symm)
  clear h hK l5 g5 ih hc
  go_enter Tryz.func52,Tryz.ntmps52
  go_wp2
  go_loopw [1,5] (fun v1 v5 wr => ∃ a x : Int,0 ≤ x ∧ x ≤ c.f5.length ∧ v1 = .int .i64 a ∧ v5 = .int .i64 x ∧ Hid (S w0 wr (Blk g (.cells #[.int .i64 c.f0,.int .i64 c.f1,.int .i64 c.f2,.bool c.f3,.bool c.f4,.slice A5 c.f5.length c5] 33) • Q))) (fun _ v _ => c.f5.length - (intOf v).toNat)
  case atStart => exact ⟨_,0,Int.le_refl _,by omega,rfl,rfl,H⟩
  case round =>
   clear H
   obtain ⟨a,x,hx0,hx1,rfl,rfl,HR⟩ := hrel
   have e5 := HR.out.cell 5 rfl
   by_cases hlt : x < c.f5.length
   ·have q126 : (x < (c.f5.length : Int)) = True := eq_true hlt
    by_cases ha : 0 ≤ a
    ·have p2 : decide (0 ≤ a) = true := decide_eq_true ha
     have p3 : (0 ≤ a) = True := eq_true ha
     obtain ⟨ad,cs,eA,hcl0,hKx,hcell0⟩ := Kd.C_get HI.out.2.2 zCon x hx0 hlt
     cases eA
     have hcell : ∀ (j : Nat) (u : Value),cs[j]? = some u → w0.cell? (ad.add (x.toNat * 6 + j)) = some u := hcell0
     have HG := Lib.hid (getD_mem c.f5 zCon x hx0 hlt)
     generalize c.f5.getD x.toNat zCon = r at *
     have HK := Lib.hid (And.intro hKx (And.intro hcell (show cs.length = 6 from hcl0)))
     have hr := con_small (List.mem_of_getElem? HG.out)
     have HZ : Hid (SizeOf.sizeOf r < n) := Lib.hid (by have := HI.out.2.1; omega)
     have p126 := eq_true hx0
     clear hcell hcell0 hcl0 hKx hr
     go_wp2_with (refine held_load 33 _ rfl ?_)
     refine ⟨?_⟩
     refine wpList_load_cells rfl 33 _ rfl _ rfl cs (elem_cells HR.out.below HK.out.2.1) _ Tryz.underlying33 rfl (by rw [HK.out.2.2]; kernel_rfl) ?_
     go_wp2_with fail
     refine (HI.out.1 r HZ.out _ _ cs a HR.out HK.out.1).mono ?_
     rintro e w3 ⟨b,rfl,h3⟩
     have H3 := Lib.hid h3
     clear h3 e5
     go_wp2
     exact ⟨⟨b,x + 1,by omega,by omega,rfl,by go_num,H3⟩,by simp only [intOf]; omega⟩
    ·have p2 : decide (0 ≤ a) = false := decide_eq_false ha
     have p3 : (0 ≤ a) = False := eq_false ha
     go_wp2
     go_ret
     exact ⟨⟨_,rfl⟩,HR.out.drop⟩
   ·have hlt' : (x < (c.f5.length : Int)) = False := eq_false hlt
    go_wp2
    go_ret
    exact ⟨⟨_,rfl⟩,HR.out.drop⟩
def FewDAt (w0 : World) (n : Nat) : Prop := ∀ l : List Val,SizeOf.sizeOf l < n → ∀ (W : World) (Q : HP) (A : Option Addr) (p : Nat) (left : Int),S w0 W Q → kVal.C w0 A l.length l → Calls Tryz.prog 53 #[.slice A l.length p,.int .i64 left] W fun e w' => ∃ r,e = .returned (.int .i64 r) ∧ S w0 w' Q
set_option maxHeartbeats 16000000 in
set_option maxRecDepth 100000 in
theorem fewd_at (n : Nat) : FewDAt w0 n := by
 induction n with
 | zero => intro c h; omega
 | succ n ih =>
  intro l hc W Q A p left h hC0
  have hl : l.length ≤ 9223372036854775807 := hC0.2.1
  have HI := Lib.hid ih
  have HA := Lib.hid (And.intro hC0 hc)
  have H := Lib.hid h
  clear h hC0 ih hc
  go_enter Tryz.func53,Tryz.ntmps53
  go_wp2
  go_loopw [1,5] (fun v1 v5 wr => ∃ a x : Int,0 ≤ x ∧ x ≤ l.length ∧ v1 = .int .i64 a ∧ v5 = .int .i64 x ∧ Hid (S w0 wr Q)) (fun _ v _ => l.length - (intOf v).toNat)
  case atStart => exact ⟨_,0,Int.le_refl _,by omega,rfl,rfl,H⟩
  case round =>
   clear H
   obtain ⟨a,x,hx0,hx1,rfl,rfl,HR⟩ := hrel
   by_cases hlt : x < l.length
   ·have q126 : (x < (l.length : Int)) = True := eq_true hlt
    by_cases ha : 0 ≤ a
    ·have p2 : decide (0 ≤ a) = true := decide_eq_true ha
     have p3 : (0 ≤ a) = True := eq_true ha
     obtain ⟨ad,cs,eA,hcl0,hKx,hcell0⟩ := Kd.C_get HA.out.1 zVal x hx0 hlt
     cases eA
     have hcell : ∀ (j : Nat) (u : Value),cs[j]? = some u → w0.cell? (ad.add (x.toNat * 5 + j)) = some u := hcell0
     have HG := Lib.hid (getD_mem l zVal x hx0 hlt)
     generalize l.getD x.toNat zVal = r at *
     obtain ⟨B3,e3,B4,e4,rfl,l3,g3,l4,g4⟩ := PScopeResolves.k109_open hKx
     have HC := Lib.hid g4
     have HF : Hid (∀ W,Below w0.heap.size w0 W → ∀ (j : Nat),0 < j → ∀ u,([.int .i64 r.f0,.int .i64 r.f1,.string r.f2,.slice B3 r.f3.length e3,.slice B4 r.f4.length e4] : List Value)[j]? = some u → W.cell? ⟨(ad.add (x.toNat * 5)).block,(ad.add (x.toNat * 5)).off + j,none⟩ = some u) := Lib.hid fun W hW j hj u hu => by
      have := pw_cell_below hW (hcell j u hu)
      rwa [add_field ad _ _ hj] at this
     have hr := val_small (List.mem_of_getElem? HG.out)
     have HZ : Hid (SizeOf.sizeOf r.f4 < n) := Lib.hid (by have := HA.out.2; omega)
     have p126 := eq_true hx0
     clear hcell hcell0 hcl0 hKx hr l3 g3 l4 g4
     go_wp2_with fail
     refine wp_region_held_drew (S := (fun w' => w'.cell? ⟨(ad.add (x.toNat * 5)).block,(ad.add (x.toNat * 5)).off + 3,none⟩ = some (.slice B3 r.f3.length e3) ∧ w'.cell? ⟨(ad.add (x.toNat * 5)).block,(ad.add (x.toNat * 5)).off + 4,none⟩ = some (.slice B4 r.f4.length e4))) (by kernel_rfl) ?_ (fun hHeld => ?_)
     ·exact ⟨HF.out _ (HR.out.drew).below 3 (by decide) _ rfl,HF.out _ (HR.out.drew).below 4 (by decide) _ rfl⟩
     refine wpAnyH_take (i := 0) (oi := ⟨some 16,.move (.tmp 0),81,"ref.go:467",#[],none⟩) (v := ?_) rfl (by kernel_rfl) (by kernel_rfl) (by kernel_rfl) (fun _ _ _ h => h) (Or.inl ⟨by rfl, ?_⟩) (by assumption) ?_
     rotate_left 1
     ·intro w hSw
      try dsimp only at hSw
      go_simp
      all_goals with_reducible rfl
     try simp only [Act.put,q3]
     refine wpAnyH_take (i := 1) (oi := ⟨some 17,.move (.tmp 5),3,"ref.go:467",#[],none⟩) (v := ?_) rfl (by kernel_rfl) (by kernel_rfl) (by kernel_rfl) (fun _ _ _ h => h) (Or.inl ⟨by rfl, ?_⟩) (by assumption) ?_
     rotate_left 1
     ·intro w hSw
      try dsimp only at hSw
      go_simp
      all_goals with_reducible rfl
     try simp only [Act.put,q3]
     refine wpAnyH_take (i := 2) (oi := ⟨some 18,.indexAddr 81 (.tmp 16) (.tmp 17),0,"ref.go:467",#[⟨0,.data⟩,⟨1,.data⟩],none⟩) (v := ?_) rfl (by kernel_rfl) (by kernel_rfl) (by kernel_rfl) (fun _ _ _ h => h) (Or.inl ⟨by rfl, ?_⟩) (by assumption) ?_
     rotate_left 1
     ·intro w hSw
      try dsimp only at hSw
      go_simp
      all_goals with_reducible rfl
     try simp only [Act.put,q3]
     refine wpAnyH_take (i := 3) (oi := ⟨some 19,.fieldAddr 109 (.tmp 18) 4,0,"ref.go:467",#[⟨2,.data⟩],none⟩) (v := ?_) rfl (by kernel_rfl) (by kernel_rfl) (by kernel_rfl) (fun _ _ _ h => h) (Or.inl ⟨by rfl, ?_⟩) (by assumption) ?_
     rotate_left 1
     ·intro w hSw
      try dsimp only at hSw
      go_simp
      all_goals with_reducible rfl
     try simp only [Act.put,q3]
     refine wpAnyH_take (i := 4) (oi := ⟨some 20,.load 81 (.tmp 19),81,"ref.go:467",#[⟨3,.data⟩],none⟩) (v := ?_) rfl (by kernel_rfl) (by kernel_rfl) (by kernel_rfl) (fun _ _ _ h => h) (Or.inl ⟨by rfl, ?_⟩) (by assumption) ?_
     rotate_left 1
     ·intro w hSw
      try dsimp only at hSw
      go_simp
      all_goals with_reducible rfl
     try simp only [Act.put,q3]
     refine wpAnyH_take (i := 5) (oi := ⟨some 21,.move (.tmp 1),3,"ref.go:467",#[],none⟩) (v := ?_) rfl (by kernel_rfl) (by kernel_rfl) (by kernel_rfl) (fun _ _ _ h => h) (Or.inl ⟨by rfl, ?_⟩) (by assumption) ?_
     rotate_left 1
     ·intro w hSw
      try dsimp only at hSw
      go_simp
      all_goals with_reducible rfl
     try simp only [Act.put,q3]
     refine wpAnyH_take (i := 6) (oi := ⟨some 22,.binOp .sub 3 (.tmp 21) (.const (.int .i64 1)) 3,3,"ref.go:467",#[⟨5,.data⟩],none⟩) (v := ?_) rfl (by kernel_rfl) (by kernel_rfl) (by kernel_rfl) (fun _ _ _ h => h) (Or.inl ⟨by rfl, ?_⟩) (by assumption) ?_
     rotate_left 1
     ·intro w hSw
      try dsimp only at hSw
      go_simp
      all_goals with_reducible rfl
     try simp only [Act.put,q3]
     refine wpAnyH_take (i := 7) (oi := ⟨some 23,.move (.tmp 0),81,"ref.go:467",#[],none⟩) (v := ?_) rfl (by kernel_rfl) (by kernel_rfl) (by kernel_rfl) (fun _ _ _ h => h) (Or.inl ⟨by rfl, ?_⟩) (by assumption) ?_
     rotate_left 1
     ·intro w hSw
      try dsimp only at hSw
      go_simp
      all_goals with_reducible rfl
     try simp only [Act.put,q3]
     refine wpAnyH_take (i := 8) (oi := ⟨some 24,.move (.tmp 5),3,"ref.go:467",#[],none⟩) (v := ?_) rfl (by kernel_rfl) (by kernel_rfl) (by kernel_rfl) (fun _ _ _ h => h) (Or.inl ⟨by rfl, ?_⟩) (by assumption) ?_
     rotate_left 1
     ·intro w hSw
      try dsimp only at hSw
      go_simp
      all_goals with_reducible rfl
     try simp only [Act.put,q3]
     refine wpAnyH_take (i := 9) (oi := ⟨some 25,.indexAddr 81 (.tmp 23) (.tmp 24),0,"ref.go:467",#[⟨7,.data⟩,⟨8,.data⟩],none⟩) (v := ?_) rfl (by kernel_rfl) (by kernel_rfl) (by kernel_rfl) (fun _ _ _ h => h) (Or.inl ⟨by rfl, ?_⟩) (by assumption) ?_
     rotate_left 1
     ·intro w hSw
      try dsimp only at hSw
      go_simp
      all_goals with_reducible rfl
     try simp only [Act.put,q3]
     refine wpAnyH_take (i := 10) (oi := ⟨some 26,.fieldAddr 109 (.tmp 25) 3,0,"ref.go:467",#[⟨9,.data⟩],none⟩) (v := ?_) rfl (by kernel_rfl) (by kernel_rfl) (by kernel_rfl) (fun _ _ _ h => h) (Or.inl ⟨by rfl, ?_⟩) (by assumption) ?_
     rotate_left 1
     ·intro w hSw
      try dsimp only at hSw
      go_simp
      all_goals with_reducible rfl
     try simp only [Act.put,q3]
     refine wpAnyH_take (i := 11) (oi := ⟨some 27,.load 34 (.tmp 26),34,"ref.go:467",#[⟨10,.data⟩],none⟩) (v := ?_) rfl (by kernel_rfl) (by kernel_rfl) (by kernel_rfl) (fun _ _ _ h => h) (Or.inl ⟨by rfl, ?_⟩) (by assumption) ?_
     rotate_left 1
     ·intro w hSw
      try dsimp only at hSw
      go_simp
      all_goals with_reducible rfl
     try simp only [Act.put,q3]
     refine wpAnyH_take (i := 12) (oi := ⟨some 28,.call { callee := .builtin .len,args := #[.tmp 27],argTypes := #[34] },3,"ref.go:467",#[⟨11,.data⟩],none⟩) (v := ?_) rfl (by kernel_rfl) (by kernel_rfl) (by kernel_rfl) (fun _ _ _ h => h) (Or.inl ⟨by rfl, ?_⟩) (by assumption) ?_
     rotate_left 1
     ·intro w hSw
      try dsimp only at hSw
      go_simp
      all_goals with_reducible rfl
     try simp only [Act.put,q3]
     refine wpAnyH_take (i := 13) (oi := ⟨some 29,.binOp .sub 3 (.tmp 22) (.tmp 28) 3,3,"ref.go:467",#[⟨6,.data⟩,⟨12,.data⟩],none⟩) (v := ?_) rfl (by kernel_rfl) (by kernel_rfl) (by kernel_rfl) (fun _ _ _ h => h) (Or.inl ⟨by rfl, ?_⟩) (by assumption) ?_
     rotate_left 1
     ·intro w hSw
      try dsimp only at hSw
      go_simp
      all_goals with_reducible rfl
     try simp only [Act.put,q3]
     refine wpAnyH_ready (rs := [14]) (by kernel_rfl) (by simp) ?_
     refine AllReadyH.cons (o := ⟨some 30,.call { callee := .value (.func 53),args := #[.tmp 20,.tmp 29],argTypes := #[81,3] },3,"ref.go:467",#[⟨4,.data⟩,⟨13,.data⟩],none⟩) rfl (fun K hK => ?_) AllReadyH.nil
     go_simp
     refine (HI.out r.f4 HZ.out _ _ _ _ _ HR.out.drew HC.out).mono ?_
     rintro e w3 ⟨b,rfl,h3⟩
     refine hK.out _ _ ?_ (fun hHeld => ?_)
     ·exact ⟨HF.out _ (h3).below 3 (by decide) _ rfl,HF.out _ (h3).below 4 (by decide) _ rfl⟩
     clear hK K
     try simp only [Act.put,q3]
     refine wpAnyH_take (i := 15) (oi := ⟨some 1,.assign (.tmp 30),3,"ref.go:467",#[⟨14,.data⟩,⟨14,.chain⟩,⟨0,.phase⟩,⟨1,.phase⟩,⟨2,.phase⟩,⟨3,.phase⟩,⟨4,.phase⟩,⟨5,.phase⟩,⟨6,.phase⟩,⟨7,.phase⟩,⟨8,.phase⟩,⟨9,.phase⟩,⟨10,.phase⟩,⟨11,.phase⟩,⟨12,.phase⟩,⟨13,.phase⟩,⟨14,.phase⟩],none⟩) (v := ?_) rfl (by kernel_rfl) (by kernel_rfl) (by kernel_rfl) (fun _ _ _ h => h) (Or.inl ⟨by rfl, ?_⟩) (by assumption) ?_
     rotate_left 1
     ·intro w hSw
      try dsimp only at hSw
      go_simp
      all_goals with_reducible rfl
     try simp only [Act.put,q3]
     refine wpAnyH_done (by kernel_rfl) ?_ _
     have H3 := Lib.hid h3
     clear h3 hHeld
     go_wp2
     exact ⟨⟨b,x + 1,by omega,by omega,rfl,by go_num,H3⟩,by simp only [intOf]; omega⟩
    ·have p2 : decide (0 ≤ a) = false := decide_eq_false ha
     have p3 : (0 ≤ a) = False := eq_false ha
     go_wp2
     go_ret
     exact ⟨⟨_,rfl⟩,HR.out⟩
   ·have hlt' : (x < (l.length : Int)) = False := eq_false hlt
    go_wp2
    go_ret
    exact ⟨⟨_,rfl⟩,HR.out⟩
end Go.Proofs.YtbjddomocggjmaaGreat.Sc
end
section
namespace Go.Proofs.YtbjddomocggjmaaGreat.Sc
open Go.RowKit Go.ChangeShapes Go.WideShapes Go.Proofs.YtbjddomocggjmaaGreat.Sep
open Go.Proofs.YtbjddomocggjmaaGreatW.PrintWords
variable {B : Nat} {w0 w : World} {R : HP}
theorem ps_small {t : Ty} {p : Pt Ty} (h : p ∈ t.ps) : SizeOf.sizeOf p.t < SizeOf.sizeOf t := by
 have h1 := List.sizeOf_lt_of_mem h
 cases t
 cases p
 simp only [Ty.mk.sizeOf_spec,Pt.mk.sizeOf_spec] at h1 ⊢
 omega
theorem ad_small {t : Ty} {p : Pt Ty} (h : p ∈ t.ad) : SizeOf.sizeOf p.t < SizeOf.sizeOf t := by
 have h1 := List.sizeOf_lt_of_mem h
 cases t
 cases p
 simp only [Ty.mk.sizeOf_spec,Pt.mk.sizeOf_spec] at h1 ⊢
 omega
theorem el_small {t x : Ty} (h : x ∈ t.el) : SizeOf.sizeOf x < SizeOf.sizeOf t := by
 have h1 := List.sizeOf_lt_of_mem h
 cases t
 simp only [Ty.mk.sizeOf_spec]
 dsimp only at h1
 omega
def FewTAt (w0 : World) (n : Nat) : Prop := ∀ t : Ty,SizeOf.sizeOf t < n → ∀ (W : World) (Q : HP) (cs : List Value) (left : Int),S w0 W Q → kTy.K w0 t cs → Calls Tryz.prog 26 #[.agg cs.toArray,.int .i64 left] W fun e w' => ∃ r,e = .returned (.int .i64 r) ∧ S w0 w' Q
set_option maxHeartbeats 16000000 in
set_option maxRecDepth 100000 in
theorem fewt_at (n : Nat) : FewTAt w0 n := by
 induction n with
 | zero => intro c h; omega
 | succ n ih =>
  intro t hc W Q cs left h hK
  obtain ⟨A7,c7,A10,c10,A11,c11,A12,c12,A13,c13,A14,c14,rfl,l7,g7,l10,g10,l11,g11,l12,g12,l13,g13,l14,g14⟩ := kTy_open hK
  have hl1 : t.ps.length ≤ 9223372036854775807 := g12.2.1
  have hl2 : t.ad.length ≤ 9223372036854775807 := g13.2.1
  have hl3 : t.el.length ≤ 9223372036854775807 := g14.2.1
  have HI := Lib.hid (And.intro ih hc)
  have HX : Hid (kCon.K w0 t.c [.int .i64 t.c.f0,.int .i64 t.c.f1,.int .i64 t.c.f2,.bool t.c.f3,.bool t.c.f4,.slice A7 t.c.f5.length c7]) := Lib.hid (PScopeResolves.k33_mk w0 t.c l7 g7)
  have HC := Lib.hid (And.intro g7 (And.intro g12 (And.intro g13 g14)))
  show Calls Tryz.prog 26 #[.agg #[.int .i64 t.k,.string t.n,.int .i64 t.c.f0,.int .i64 t.c.f1,.int .i64 t.c.f2,.bool t.c.f3,.bool t.c.f4,.slice A7 t.c.f5.length c7,.bool t.e,.string t.fr,.slice A10 t.ns.length c10,.slice A11 t.mo.length c11,.slice A12 t.ps.length c12,.slice A13 t.ad.length c13,.slice A14 t.el.length c14],.int .i64 left] W _
  generalize hg : W.heap.size = g
  have H0 := Lib.hid (alloc_at (n := g) h (.cells #[.int .i64 t.k,.string t.n,.int .i64 t.c.f0,.int .i64 t.c.f1,.int .i64 t.c.f2,.bool t.c.f3,.bool t.c.f4,.slice A7 t.c.f5.length c7,.bool t.e,.string t.fr,.slice A10 t.ns.length c10,.slice A11 t.mo.length c11,.slice A12 t.ps.length c12,.slice A13 t.ad.length c13,.slice A14 t.el.length c14] 38) hg.symm)
  have d2 := H0.out.cell 2 rfl
  have d3 := H0.out.cell 3 rfl
  have d4 := H0.out.cell 4 rfl
  have d5 := H0.out.cell 5 rfl
  have d6 := H0.out.cell 6 rfl
  have d7 := H0.out.cell 7 rfl
  have d10 := H0.out.cell 10 rfl
  have d11 := H0.out.cell 11 rfl
  clear h hK ih hc l7 g7 l10 g10 l11 g11 l12 g12 l13 g13 l14 g14
  go_enter Tryz.func26,Tryz.ntmps26
  go_wp2_with fail
  refine (fewc_at (SizeOf.sizeOf t.c + 1) t.c (Nat.lt_succ_self _) _ _ _ _ H0.out HX.out).mono ?_
  rintro e w1 ⟨a0,rfl,h1⟩
  have H := Lib.hid h1
  clear h1 H0 d2 d3 d4 d5 d6 d7 d10 d11
  have m12 := H.out.cell 12 rfl
  go_wp2
  go_loopw [1,5] (fun v1 v5 wr => ∃ a x : Int,0 ≤ x ∧ x ≤ t.ps.length ∧ v1 = .int .i64 a ∧ v5 = .int .i64 x ∧ Hid (S w0 wr (Blk g (.cells #[.int .i64 t.k,.string t.n,.int .i64 t.c.f0,.int .i64 t.c.f1,.int .i64 t.c.f2,.bool t.c.f3,.bool t.c.f4,.slice A7 t.c.f5.length c7,.bool t.e,.string t.fr,.slice A10 t.ns.length c10,.slice A11 t.mo.length c11,.slice A12 t.ps.length c12,.slice A13 t.ad.length c13,.slice A14 t.el.length c14] 38) • Q))) (fun _ v _ => t.ps.length - (intOf v).toNat)
  case atStart => exact ⟨_,0,Int.le_refl _,by omega,rfl,rfl,H⟩
  case round =>
   clear H
   obtain ⟨a,x,hx0,hx1,rfl,rfl,HR⟩ := hrel
   have e5 := HR.out.cell 12 rfl
   by_cases hlt : x < t.ps.length
   ·have q126 : (x < (t.ps.length : Int)) = True := eq_true hlt
    by_cases ha : 0 ≤ a
    ·have p2 : decide (0 ≤ a) = true := decide_eq_true ha
     have p3 : (0 ≤ a) = True := eq_true ha
     obtain ⟨ad,cs,eA,hcl0,hKx,hcell0⟩ := Kd.C_get HC.out.2.1 zPt x hx0 hlt
     cases eA
     have hcell : ∀ (j : Nat) (u : Value),cs[j]? = some u → w0.cell? (ad.add (x.toNat * 18 + j)) = some u := hcell0
     have HG := Lib.hid (getD_mem t.ps zPt x hx0 hlt)
     generalize t.ps.getD x.toNat zPt = r at *
     obtain ⟨ts,B17,e17,rfl,hT,l17,g17⟩ := kPt_open (show kPt.K w0 r cs from hKx)
     have HK := Lib.hid (And.intro hT g17)
     obtain ⟨B7,e7,B10,e10,B11,e11,B12,e12,B13,e13,B14,e14,rfl, -⟩ := kTy_open hT
     have HF : Hid (∀ W,Below w0.heap.size w0 W → ∀ (j : Nat),0 < j → ∀ u,([.string r.n,.int .i64 r.t.k,.string r.t.n,.int .i64 r.t.c.f0,.int .i64 r.t.c.f1,.int .i64 r.t.c.f2,.bool r.t.c.f3,.bool r.t.c.f4,.slice B7 r.t.c.f5.length e7,.bool r.t.e,.string r.t.fr,.slice B10 r.t.ns.length e10,.slice B11 r.t.mo.length e11,.slice B12 r.t.ps.length e12,.slice B13 r.t.ad.length e13,.slice B14 r.t.el.length e14,.bool r.o,.slice B17 r.d.length e17] : List Value)[j]? = some u → W.cell? ⟨(ad.add (x.toNat * 18)).block,(ad.add (x.toNat * 18)).off + j,none⟩ = some u) := Lib.hid fun W hW j hj u hu => by
      have := pw_cell_below hW (hcell j u hu)
      rwa [add_field ad _ _ hj] at this
     have HZ : Hid (SizeOf.sizeOf r.t < n) := Lib.hid (by have := ps_small (List.mem_of_getElem? HG.out); have := HI.out.2; omega)
     have p126 := eq_true hx0
     clear hcell hcell0 hcl0 hKx hT l17 g17
     go_wp2_with fail
     refine wp_region_held_drew (S := (fun w' => w'.cell? ⟨g,12,none⟩ = some (.slice (some ad) t.ps.length c12) ∧ w'.cell? ⟨(ad.add (x.toNat * 18)).block,(ad.add (x.toNat * 18)).off + 1,none⟩ = some (.int .i64 r.t.k) ∧ w'.cell? ⟨(ad.add (x.toNat * 18)).block,(ad.add (x.toNat * 18)).off + 2,none⟩ = some (.string r.t.n) ∧ w'.cell? ⟨(ad.add (x.toNat * 18)).block,(ad.add (x.toNat * 18)).off + 3,none⟩ = some (.int .i64 r.t.c.f0) ∧ w'.cell? ⟨(ad.add (x.toNat * 18)).block,(ad.add (x.toNat * 18)).off + 4,none⟩ = some (.int .i64 r.t.c.f1) ∧ w'.cell? ⟨(ad.add (x.toNat * 18)).block,(ad.add (x.toNat * 18)).off + 5,none⟩ = some (.int .i64 r.t.c.f2) ∧ w'.cell? ⟨(ad.add (x.toNat * 18)).block,(ad.add (x.toNat * 18)).off + 6,none⟩ = some (.bool r.t.c.f3) ∧ w'.cell? ⟨(ad.add (x.toNat * 18)).block,(ad.add (x.toNat * 18)).off + 7,none⟩ = some (.bool r.t.c.f4) ∧ w'.cell? ⟨(ad.add (x.toNat * 18)).block,(ad.add (x.toNat * 18)).off + 8,none⟩ = some (.slice B7 r.t.c.f5.length e7) ∧ w'.cell? ⟨(ad.add (x.toNat * 18)).block,(ad.add (x.toNat * 18)).off + 9,none⟩ = some (.bool r.t.e) ∧ w'.cell? ⟨(ad.add (x.toNat * 18)).block,(ad.add (x.toNat * 18)).off + 10,none⟩ = some (.string r.t.fr) ∧ w'.cell? ⟨(ad.add (x.toNat * 18)).block,(ad.add (x.toNat * 18)).off + 11,none⟩ = some (.slice B10 r.t.ns.length e10) ∧ w'.cell? ⟨(ad.add (x.toNat * 18)).block,(ad.add (x.toNat * 18)).off + 12,none⟩ = some (.slice B11 r.t.mo.length e11) ∧ w'.cell? ⟨(ad.add (x.toNat * 18)).block,(ad.add (x.toNat * 18)).off + 13,none⟩ = some (.slice B12 r.t.ps.length e12) ∧ w'.cell? ⟨(ad.add (x.toNat * 18)).block,(ad.add (x.toNat * 18)).off + 14,none⟩ = some (.slice B13 r.t.ad.length e13) ∧ w'.cell? ⟨(ad.add (x.toNat * 18)).block,(ad.add (x.toNat * 18)).off + 15,none⟩ = some (.slice B14 r.t.el.length e14) ∧ w'.cell? ⟨(ad.add (x.toNat * 18)).block,(ad.add (x.toNat * 18)).off + 17,none⟩ = some (.slice B17 r.d.length e17))) (by kernel_rfl) ?_ (fun hHeld => ?_)
     ·exact ⟨(HR.out.drew).cell 12 rfl,HF.out _ (HR.out.drew).below 1 (by decide) _ rfl,HF.out _ (HR.out.drew).below 2 (by decide) _ rfl,HF.out _ (HR.out.drew).below 3 (by decide) _ rfl,HF.out _ (HR.out.drew).below 4 (by decide) _ rfl,HF.out _ (HR.out.drew).below 5 (by decide) _ rfl,HF.out _ (HR.out.drew).below 6 (by decide) _ rfl,HF.out _ (HR.out.drew).below 7 (by decide) _ rfl,HF.out _ (HR.out.drew).below 8 (by decide) _ rfl,HF.out _ (HR.out.drew).below 9 (by decide) _ rfl,HF.out _ (HR.out.drew).below 10 (by decide) _ rfl,HF.out _ (HR.out.drew).below 11 (by decide) _ rfl,HF.out _ (HR.out.drew).below 12 (by decide) _ rfl,HF.out _ (HR.out.drew).below 13 (by decide) _ rfl,HF.out _ (HR.out.drew).below 14 (by decide) _ rfl,HF.out _ (HR.out.drew).below 15 (by decide) _ rfl,HF.out _ (HR.out.drew).below 17 (by decide) _ rfl⟩
     refine wpAnyH_take (i := 0) (oi := ⟨some 32,.fieldAddr 38 (.tmp 2) 7,0,"ref.go:454",#[],none⟩) (v := ?_) rfl (by kernel_rfl) (by kernel_rfl) (by kernel_rfl) (fun _ _ _ h => h) (Or.inl ⟨by rfl, ?_⟩) (by assumption) ?_
     rotate_left 1
     ·intro w hSw
      try dsimp only at hSw
      go_simp
      all_goals with_reducible rfl
     try simp only [Act.put,q3]
     refine wpAnyH_take (i := 1) (oi := ⟨some 33,.load 35 (.tmp 32),35,"ref.go:454",#[⟨0,.data⟩],none⟩) (v := ?_) rfl (by kernel_rfl) (by kernel_rfl) (by kernel_rfl) (fun _ _ _ h => h) (Or.inl ⟨by rfl, ?_⟩) (by assumption) ?_
     rotate_left 1
     ·intro w hSw
      try dsimp only at hSw
      go_simp
      all_goals with_reducible rfl
     try simp only [Act.put,q3]
     refine wpAnyH_take (i := 2) (oi := ⟨some 34,.move (.tmp 5),3,"ref.go:454",#[],none⟩) (v := ?_) rfl (by kernel_rfl) (by kernel_rfl) (by kernel_rfl) (fun _ _ _ h => h) (Or.inl ⟨by rfl, ?_⟩) (by assumption) ?_
     rotate_left 1
     ·intro w hSw
      try dsimp only at hSw
      go_simp
      all_goals with_reducible rfl
     try simp only [Act.put,q3]
     refine wpAnyH_take (i := 3) (oi := ⟨some 35,.indexAddr 35 (.tmp 33) (.tmp 34),0,"ref.go:454",#[⟨1,.data⟩,⟨2,.data⟩],none⟩) (v := ?_) rfl (by kernel_rfl) (by kernel_rfl) (by kernel_rfl) (fun _ _ _ h => h) (Or.inl ⟨by rfl, ?_⟩) (by assumption) ?_
     rotate_left 1
     ·intro w hSw
      try dsimp only at hSw
      go_simp
      all_goals with_reducible rfl
     try simp only [Act.put,q3]
     refine wpAnyH_take (i := 4) (oi := ⟨some 36,.fieldAddr 83 (.tmp 35) 1,0,"ref.go:454",#[⟨3,.data⟩],none⟩) (v := ?_) rfl (by kernel_rfl) (by kernel_rfl) (by kernel_rfl) (fun _ _ _ h => h) (Or.inl ⟨by rfl, ?_⟩) (by assumption) ?_
     rotate_left 1
     ·intro w hSw
      try dsimp only at hSw
      go_simp
      all_goals with_reducible rfl
     try simp only [Act.put,q3]
     refine wpAnyH_take (i := 5) (oi := ⟨some 37,.load 38 (.tmp 36),38,"ref.go:454",#[⟨4,.data⟩],none⟩) (v := ?_) rfl (by kernel_rfl) (by kernel_rfl) (by kernel_rfl) (fun _ _ _ h => h) (Or.inl ⟨by rfl, ?_⟩) (by assumption) ?_
     rotate_left 1
     ·intro w hSw
      try dsimp only at hSw
      go_simp
      all_goals with_reducible rfl
     try simp only [Act.put,q3]
     refine wpAnyH_take (i := 6) (oi := ⟨some 38,.fieldAddr 38 (.tmp 2) 7,0,"ref.go:454",#[],none⟩) (v := ?_) rfl (by kernel_rfl) (by kernel_rfl) (by kernel_rfl) (fun _ _ _ h => h) (Or.inl ⟨by rfl, ?_⟩) (by assumption) ?_
     rotate_left 1
     ·intro w hSw
      try dsimp only at hSw
      go_simp
      all_goals with_reducible rfl
     try simp only [Act.put,q3]
     refine wpAnyH_take (i := 7) (oi := ⟨some 39,.load 35 (.tmp 38),35,"ref.go:454",#[⟨6,.data⟩],none⟩) (v := ?_) rfl (by kernel_rfl) (by kernel_rfl) (by kernel_rfl) (fun _ _ _ h => h) (Or.inl ⟨by rfl, ?_⟩) (by assumption) ?_
     rotate_left 1
     ·intro w hSw
      try dsimp only at hSw
      go_simp
      all_goals with_reducible rfl
     try simp only [Act.put,q3]
     refine wpAnyH_take (i := 8) (oi := ⟨some 40,.move (.tmp 5),3,"ref.go:454",#[],none⟩) (v := ?_) rfl (by kernel_rfl) (by kernel_rfl) (by kernel_rfl) (fun _ _ _ h => h) (Or.inl ⟨by rfl, ?_⟩) (by assumption) ?_
     rotate_left 1
     ·intro w hSw
      try dsimp only at hSw
      go_simp
      all_goals with_reducible rfl
     try simp only [Act.put,q3]
     refine wpAnyH_take (i := 9) (oi := ⟨some 41,.indexAddr 35 (.tmp 39) (.tmp 40),0,"ref.go:454",#[⟨7,.data⟩,⟨8,.data⟩],none⟩) (v := ?_) rfl (by kernel_rfl) (by kernel_rfl) (by kernel_rfl) (fun _ _ _ h => h) (Or.inl ⟨by rfl, ?_⟩) (by assumption) ?_
     rotate_left 1
     ·intro w hSw
      try dsimp only at hSw
      go_simp
      all_goals with_reducible rfl
     try simp only [Act.put,q3]
     refine wpAnyH_take (i := 10) (oi := ⟨some 42,.fieldAddr 83 (.tmp 41) 3,0,"ref.go:454",#[⟨9,.data⟩],none⟩) (v := ?_) rfl (by kernel_rfl) (by kernel_rfl) (by kernel_rfl) (fun _ _ _ h => h) (Or.inl ⟨by rfl, ?_⟩) (by assumption) ?_
     rotate_left 1
     ·intro w hSw
      try dsimp only at hSw
      go_simp
      all_goals with_reducible rfl
     try simp only [Act.put,q3]
     refine wpAnyH_take (i := 11) (oi := ⟨some 43,.load 81 (.tmp 42),81,"ref.go:454",#[⟨10,.data⟩],none⟩) (v := ?_) rfl (by kernel_rfl) (by kernel_rfl) (by kernel_rfl) (fun _ _ _ h => h) (Or.inl ⟨by rfl, ?_⟩) (by assumption) ?_
     rotate_left 1
     ·intro w hSw
      try dsimp only at hSw
      go_simp
      all_goals with_reducible rfl
     try simp only [Act.put,q3]
     refine wpAnyH_take (i := 12) (oi := ⟨some 44,.move (.tmp 1),3,"ref.go:454",#[],none⟩) (v := ?_) rfl (by kernel_rfl) (by kernel_rfl) (by kernel_rfl) (fun _ _ _ h => h) (Or.inl ⟨by rfl, ?_⟩) (by assumption) ?_
     rotate_left 1
     ·intro w hSw
      try dsimp only at hSw
      go_simp
      all_goals with_reducible rfl
     try simp only [Act.put,q3]
     refine wpAnyH_take (i := 13) (oi := ⟨some 45,.binOp .sub 3 (.tmp 44) (.const (.int .i64 1)) 3,3,"ref.go:454",#[⟨12,.data⟩],none⟩) (v := ?_) rfl (by kernel_rfl) (by kernel_rfl) (by kernel_rfl) (fun _ _ _ h => h) (Or.inl ⟨by rfl, ?_⟩) (by assumption) ?_
     rotate_left 1
     ·intro w hSw
      try dsimp only at hSw
      go_simp
      all_goals with_reducible rfl
     try simp only [Act.put,q3]
     refine wpAnyH_ready (rs := [14]) (by kernel_rfl) (by simp) ?_
     refine AllReadyH.cons (o := ⟨some 46,.call { callee := .value (.func 53),args := #[.tmp 43,.tmp 45],argTypes := #[81,3] },3,"ref.go:454",#[⟨11,.data⟩,⟨13,.data⟩],none⟩) rfl (fun K hK => ?_) AllReadyH.nil
     go_simp
     refine (fewd_at (SizeOf.sizeOf r.d + 1) r.d (Nat.lt_succ_self _) _ _ B17 e17 _ HR.out.drew HK.out.2).mono ?_
     rintro e w3 ⟨b,rfl,h3⟩
     refine hK.out _ _ ?_ (fun hHeld => ?_)
     ·exact ⟨(h3).cell 12 rfl,HF.out _ (h3).below 1 (by decide) _ rfl,HF.out _ (h3).below 2 (by decide) _ rfl,HF.out _ (h3).below 3 (by decide) _ rfl,HF.out _ (h3).below 4 (by decide) _ rfl,HF.out _ (h3).below 5 (by decide) _ rfl,HF.out _ (h3).below 6 (by decide) _ rfl,HF.out _ (h3).below 7 (by decide) _ rfl,HF.out _ (h3).below 8 (by decide) _ rfl,HF.out _ (h3).below 9 (by decide) _ rfl,HF.out _ (h3).below 10 (by decide) _ rfl,HF.out _ (h3).below 11 (by decide) _ rfl,HF.out _ (h3).below 12 (by decide) _ rfl,HF.out _ (h3).below 13 (by decide) _ rfl,HF.out _ (h3).below 14 (by decide) _ rfl,HF.out _ (h3).below 15 (by decide) _ rfl,HF.out _ (h3).below 17 (by decide) _ rfl⟩
     clear hK K
     try simp only [Act.put,q3]
     refine wpAnyH_ready (rs := [15]) (by kernel_rfl) (by simp) ?_
     refine AllReadyH.cons (o := ⟨some 47,.call { callee := .value (.func 26),args := #[.tmp 37,.tmp 46],argTypes := #[38,3] },3,"ref.go:454",#[⟨5,.data⟩,⟨14,.data⟩,⟨14,.chain⟩],none⟩) rfl (fun K hK => ?_) AllReadyH.nil
     go_simp
     refine (HI.out.1 r.t HZ.out _ _ _ b h3 HK.out.1).mono ?_
     rintro e w4 ⟨b4,rfl,h4⟩
     refine hK.out _ _ ?_ (fun hHeld => ?_)
     ·exact ⟨(h4).cell 12 rfl,HF.out _ (h4).below 1 (by decide) _ rfl,HF.out _ (h4).below 2 (by decide) _ rfl,HF.out _ (h4).below 3 (by decide) _ rfl,HF.out _ (h4).below 4 (by decide) _ rfl,HF.out _ (h4).below 5 (by decide) _ rfl,HF.out _ (h4).below 6 (by decide) _ rfl,HF.out _ (h4).below 7 (by decide) _ rfl,HF.out _ (h4).below 8 (by decide) _ rfl,HF.out _ (h4).below 9 (by decide) _ rfl,HF.out _ (h4).below 10 (by decide) _ rfl,HF.out _ (h4).below 11 (by decide) _ rfl,HF.out _ (h4).below 12 (by decide) _ rfl,HF.out _ (h4).below 13 (by decide) _ rfl,HF.out _ (h4).below 14 (by decide) _ rfl,HF.out _ (h4).below 15 (by decide) _ rfl,HF.out _ (h4).below 17 (by decide) _ rfl⟩
     clear hK K
     try simp only [Act.put,q3]
     refine wpAnyH_take (i := 16) (oi := ⟨some 1,.assign (.tmp 47),3,"ref.go:454",#[⟨15,.data⟩,⟨15,.chain⟩,⟨0,.phase⟩,⟨1,.phase⟩,⟨2,.phase⟩,⟨3,.phase⟩,⟨4,.phase⟩,⟨5,.phase⟩,⟨6,.phase⟩,⟨7,.phase⟩,⟨8,.phase⟩,⟨9,.phase⟩,⟨10,.phase⟩,⟨11,.phase⟩,⟨12,.phase⟩,⟨13,.phase⟩,⟨14,.phase⟩,⟨15,.phase⟩],none⟩) (v := ?_) rfl (by kernel_rfl) (by kernel_rfl) (by kernel_rfl) (fun _ _ _ h => h) (Or.inl ⟨by rfl, ?_⟩) (by assumption) ?_
     rotate_left 1
     ·intro w hSw
      try dsimp only at hSw
      go_simp
      all_goals with_reducible rfl
     try simp only [Act.put,q3]
     refine wpAnyH_done (by kernel_rfl) ?_ _
     have H4 := Lib.hid h4
     clear h3 h4 hHeld e5
     go_wp2
     exact ⟨⟨b4,x + 1,by omega,by omega,rfl,by go_num,H4⟩,by simp only [intOf]; omega⟩
    ·have p2 : decide (0 ≤ a) = false := decide_eq_false ha
     have p3 : (0 ≤ a) = False := eq_false ha
     have H := Lib.hid HR.out
     clear HR
     have m13 := H.out.cell 13 rfl
     go_wp2
     go_loopw [1,6] (fun v1 v5 wr => ∃ a x : Int,0 ≤ x ∧ x ≤ t.ad.length ∧ v1 = .int .i64 a ∧ v5 = .int .i64 x ∧ Hid (S w0 wr (Blk g (.cells #[.int .i64 t.k,.string t.n,.int .i64 t.c.f0,.int .i64 t.c.f1,.int .i64 t.c.f2,.bool t.c.f3,.bool t.c.f4,.slice A7 t.c.f5.length c7,.bool t.e,.string t.fr,.slice A10 t.ns.length c10,.slice A11 t.mo.length c11,.slice A12 t.ps.length c12,.slice A13 t.ad.length c13,.slice A14 t.el.length c14] 38) • Q))) (fun _ v _ => t.ad.length - (intOf v).toNat)
     case atStart => exact ⟨_,0,Int.le_refl _,by omega,rfl,rfl,H⟩
     case round =>
      clear H
      obtain ⟨a,x,hx0,hx1,rfl,rfl,HR⟩ := hrel
      have e5 := HR.out.cell 13 rfl
      by_cases hlt : x < t.ad.length
      ·have q126 : (x < (t.ad.length : Int)) = True := eq_true hlt
       by_cases ha : 0 ≤ a
       ·have p2 : decide (0 ≤ a) = true := decide_eq_true ha
        have p3 : (0 ≤ a) = True := eq_true ha
        obtain ⟨ad,cs,eA,hcl0,hKx,hcell0⟩ := Kd.C_get HC.out.2.2.1 zPt x hx0 hlt
        cases eA
        have hcell : ∀ (j : Nat) (u : Value),cs[j]? = some u → w0.cell? (ad.add (x.toNat * 18 + j)) = some u := hcell0
        have HG := Lib.hid (getD_mem t.ad zPt x hx0 hlt)
        generalize t.ad.getD x.toNat zPt = r at *
        obtain ⟨ts,B17,e17,rfl,hT,l17,g17⟩ := kPt_open (show kPt.K w0 r cs from hKx)
        have HK := Lib.hid (And.intro hT g17)
        obtain ⟨B7,e7,B10,e10,B11,e11,B12,e12,B13,e13,B14,e14,rfl, -⟩ := kTy_open hT
        have HF : Hid (∀ W,Below w0.heap.size w0 W → ∀ (j : Nat),0 < j → ∀ u,([.string r.n,.int .i64 r.t.k,.string r.t.n,.int .i64 r.t.c.f0,.int .i64 r.t.c.f1,.int .i64 r.t.c.f2,.bool r.t.c.f3,.bool r.t.c.f4,.slice B7 r.t.c.f5.length e7,.bool r.t.e,.string r.t.fr,.slice B10 r.t.ns.length e10,.slice B11 r.t.mo.length e11,.slice B12 r.t.ps.length e12,.slice B13 r.t.ad.length e13,.slice B14 r.t.el.length e14,.bool r.o,.slice B17 r.d.length e17] : List Value)[j]? = some u → W.cell? ⟨(ad.add (x.toNat * 18)).block,(ad.add (x.toNat * 18)).off + j,none⟩ = some u) := Lib.hid fun W hW j hj u hu => by
         have := pw_cell_below hW (hcell j u hu)
         rwa [add_field ad _ _ hj] at this
        have HZ : Hid (SizeOf.sizeOf r.t < n) := Lib.hid (by have := ad_small (List.mem_of_getElem? HG.out); have := HI.out.2; omega)
        have p126 := eq_true hx0
        clear hcell hcell0 hcl0 hKx hT l17 g17
        go_wp2_with fail
        refine wp_region_held_drew (S := (fun w' => w'.cell? ⟨g,13,none⟩ = some (.slice (some ad) t.ad.length c13) ∧ w'.cell? ⟨(ad.add (x.toNat * 18)).block,(ad.add (x.toNat * 18)).off + 1,none⟩ = some (.int .i64 r.t.k) ∧ w'.cell? ⟨(ad.add (x.toNat * 18)).block,(ad.add (x.toNat * 18)).off + 2,none⟩ = some (.string r.t.n) ∧ w'.cell? ⟨(ad.add (x.toNat * 18)).block,(ad.add (x.toNat * 18)).off + 3,none⟩ = some (.int .i64 r.t.c.f0) ∧ w'.cell? ⟨(ad.add (x.toNat * 18)).block,(ad.add (x.toNat * 18)).off + 4,none⟩ = some (.int .i64 r.t.c.f1) ∧ w'.cell? ⟨(ad.add (x.toNat * 18)).block,(ad.add (x.toNat * 18)).off + 5,none⟩ = some (.int .i64 r.t.c.f2) ∧ w'.cell? ⟨(ad.add (x.toNat * 18)).block,(ad.add (x.toNat * 18)).off + 6,none⟩ = some (.bool r.t.c.f3) ∧ w'.cell? ⟨(ad.add (x.toNat * 18)).block,(ad.add (x.toNat * 18)).off + 7,none⟩ = some (.bool r.t.c.f4) ∧ w'.cell? ⟨(ad.add (x.toNat * 18)).block,(ad.add (x.toNat * 18)).off + 8,none⟩ = some (.slice B7 r.t.c.f5.length e7) ∧ w'.cell? ⟨(ad.add (x.toNat * 18)).block,(ad.add (x.toNat * 18)).off + 9,none⟩ = some (.bool r.t.e) ∧ w'.cell? ⟨(ad.add (x.toNat * 18)).block,(ad.add (x.toNat * 18)).off + 10,none⟩ = some (.string r.t.fr) ∧ w'.cell? ⟨(ad.add (x.toNat * 18)).block,(ad.add (x.toNat * 18)).off + 11,none⟩ = some (.slice B10 r.t.ns.length e10) ∧ w'.cell? ⟨(ad.add (x.toNat * 18)).block,(ad.add (x.toNat * 18)).off + 12,none⟩ = some (.slice B11 r.t.mo.length e11) ∧ w'.cell? ⟨(ad.add (x.toNat * 18)).block,(ad.add (x.toNat * 18)).off + 13,none⟩ = some (.slice B12 r.t.ps.length e12) ∧ w'.cell? ⟨(ad.add (x.toNat * 18)).block,(ad.add (x.toNat * 18)).off + 14,none⟩ = some (.slice B13 r.t.ad.length e13) ∧ w'.cell? ⟨(ad.add (x.toNat * 18)).block,(ad.add (x.toNat * 18)).off + 15,none⟩ = some (.slice B14 r.t.el.length e14) ∧ w'.cell? ⟨(ad.add (x.toNat * 18)).block,(ad.add (x.toNat * 18)).off + 17,none⟩ = some (.slice B17 r.d.length e17))) (by kernel_rfl) ?_ (fun hHeld => ?_)
        ·exact ⟨(HR.out.drew).cell 13 rfl,HF.out _ (HR.out.drew).below 1 (by decide) _ rfl,HF.out _ (HR.out.drew).below 2 (by decide) _ rfl,HF.out _ (HR.out.drew).below 3 (by decide) _ rfl,HF.out _ (HR.out.drew).below 4 (by decide) _ rfl,HF.out _ (HR.out.drew).below 5 (by decide) _ rfl,HF.out _ (HR.out.drew).below 6 (by decide) _ rfl,HF.out _ (HR.out.drew).below 7 (by decide) _ rfl,HF.out _ (HR.out.drew).below 8 (by decide) _ rfl,HF.out _ (HR.out.drew).below 9 (by decide) _ rfl,HF.out _ (HR.out.drew).below 10 (by decide) _ rfl,HF.out _ (HR.out.drew).below 11 (by decide) _ rfl,HF.out _ (HR.out.drew).below 12 (by decide) _ rfl,HF.out _ (HR.out.drew).below 13 (by decide) _ rfl,HF.out _ (HR.out.drew).below 14 (by decide) _ rfl,HF.out _ (HR.out.drew).below 15 (by decide) _ rfl,HF.out _ (HR.out.drew).below 17 (by decide) _ rfl⟩
        refine wpAnyH_take (i := 0) (oi := ⟨some 59,.fieldAddr 38 (.tmp 2) 8,0,"ref.go:457",#[],none⟩) (v := ?_) rfl (by kernel_rfl) (by kernel_rfl) (by kernel_rfl) (fun _ _ _ h => h) (Or.inl ⟨by rfl, ?_⟩) (by assumption) ?_
        rotate_left 1
        ·intro w hSw
         try dsimp only at hSw
         go_simp
         all_goals with_reducible rfl
        try simp only [Act.put,q3]
        refine wpAnyH_take (i := 1) (oi := ⟨some 60,.load 35 (.tmp 59),35,"ref.go:457",#[⟨0,.data⟩],none⟩) (v := ?_) rfl (by kernel_rfl) (by kernel_rfl) (by kernel_rfl) (fun _ _ _ h => h) (Or.inl ⟨by rfl, ?_⟩) (by assumption) ?_
        rotate_left 1
        ·intro w hSw
         try dsimp only at hSw
         go_simp
         all_goals with_reducible rfl
        try simp only [Act.put,q3]
        refine wpAnyH_take (i := 2) (oi := ⟨some 61,.move (.tmp 6),3,"ref.go:457",#[],none⟩) (v := ?_) rfl (by kernel_rfl) (by kernel_rfl) (by kernel_rfl) (fun _ _ _ h => h) (Or.inl ⟨by rfl, ?_⟩) (by assumption) ?_
        rotate_left 1
        ·intro w hSw
         try dsimp only at hSw
         go_simp
         all_goals with_reducible rfl
        try simp only [Act.put,q3]
        refine wpAnyH_take (i := 3) (oi := ⟨some 62,.indexAddr 35 (.tmp 60) (.tmp 61),0,"ref.go:457",#[⟨1,.data⟩,⟨2,.data⟩],none⟩) (v := ?_) rfl (by kernel_rfl) (by kernel_rfl) (by kernel_rfl) (fun _ _ _ h => h) (Or.inl ⟨by rfl, ?_⟩) (by assumption) ?_
        rotate_left 1
        ·intro w hSw
         try dsimp only at hSw
         go_simp
         all_goals with_reducible rfl
        try simp only [Act.put,q3]
        refine wpAnyH_take (i := 4) (oi := ⟨some 63,.fieldAddr 83 (.tmp 62) 1,0,"ref.go:457",#[⟨3,.data⟩],none⟩) (v := ?_) rfl (by kernel_rfl) (by kernel_rfl) (by kernel_rfl) (fun _ _ _ h => h) (Or.inl ⟨by rfl, ?_⟩) (by assumption) ?_
        rotate_left 1
        ·intro w hSw
         try dsimp only at hSw
         go_simp
         all_goals with_reducible rfl
        try simp only [Act.put,q3]
        refine wpAnyH_take (i := 5) (oi := ⟨some 64,.load 38 (.tmp 63),38,"ref.go:457",#[⟨4,.data⟩],none⟩) (v := ?_) rfl (by kernel_rfl) (by kernel_rfl) (by kernel_rfl) (fun _ _ _ h => h) (Or.inl ⟨by rfl, ?_⟩) (by assumption) ?_
        rotate_left 1
        ·intro w hSw
         try dsimp only at hSw
         go_simp
         all_goals with_reducible rfl
        try simp only [Act.put,q3]
        refine wpAnyH_take (i := 6) (oi := ⟨some 65,.fieldAddr 38 (.tmp 2) 8,0,"ref.go:457",#[],none⟩) (v := ?_) rfl (by kernel_rfl) (by kernel_rfl) (by kernel_rfl) (fun _ _ _ h => h) (Or.inl ⟨by rfl, ?_⟩) (by assumption) ?_
        rotate_left 1
        ·intro w hSw
         try dsimp only at hSw
         go_simp
         all_goals with_reducible rfl
        try simp only [Act.put,q3]
        refine wpAnyH_take (i := 7) (oi := ⟨some 66,.load 35 (.tmp 65),35,"ref.go:457",#[⟨6,.data⟩],none⟩) (v := ?_) rfl (by kernel_rfl) (by kernel_rfl) (by kernel_rfl) (fun _ _ _ h => h) (Or.inl ⟨by rfl, ?_⟩) (by assumption) ?_
        rotate_left 1
        ·intro w hSw
         try dsimp only at hSw
         go_simp
         all_goals with_reducible rfl
        try simp only [Act.put,q3]
        refine wpAnyH_take (i := 8) (oi := ⟨some 67,.move (.tmp 6),3,"ref.go:457",#[],none⟩) (v := ?_) rfl (by kernel_rfl) (by kernel_rfl) (by kernel_rfl) (fun _ _ _ h => h) (Or.inl ⟨by rfl, ?_⟩) (by assumption) ?_
        rotate_left 1
        ·intro w hSw
         try dsimp only at hSw
         go_simp
         all_goals with_reducible rfl
        try simp only [Act.put,q3]
        refine wpAnyH_take (i := 9) (oi := ⟨some 68,.indexAddr 35 (.tmp 66) (.tmp 67),0,"ref.go:457",#[⟨7,.data⟩,⟨8,.data⟩],none⟩) (v := ?_) rfl (by kernel_rfl) (by kernel_rfl) (by kernel_rfl) (fun _ _ _ h => h) (Or.inl ⟨by rfl, ?_⟩) (by assumption) ?_
        rotate_left 1
        ·intro w hSw
         try dsimp only at hSw
         go_simp
         all_goals with_reducible rfl
        try simp only [Act.put,q3]
        refine wpAnyH_take (i := 10) (oi := ⟨some 69,.fieldAddr 83 (.tmp 68) 3,0,"ref.go:457",#[⟨9,.data⟩],none⟩) (v := ?_) rfl (by kernel_rfl) (by kernel_rfl) (by kernel_rfl) (fun _ _ _ h => h) (Or.inl ⟨by rfl, ?_⟩) (by assumption) ?_
        rotate_left 1
        ·intro w hSw
         try dsimp only at hSw
         go_simp
         all_goals with_reducible rfl
        try simp only [Act.put,q3]
        refine wpAnyH_take (i := 11) (oi := ⟨some 70,.load 81 (.tmp 69),81,"ref.go:457",#[⟨10,.data⟩],none⟩) (v := ?_) rfl (by kernel_rfl) (by kernel_rfl) (by kernel_rfl) (fun _ _ _ h => h) (Or.inl ⟨by rfl, ?_⟩) (by assumption) ?_
        rotate_left 1
        ·intro w hSw
         try dsimp only at hSw
         go_simp
         all_goals with_reducible rfl
        try simp only [Act.put,q3]
        refine wpAnyH_take (i := 12) (oi := ⟨some 71,.move (.tmp 1),3,"ref.go:457",#[],none⟩) (v := ?_) rfl (by kernel_rfl) (by kernel_rfl) (by kernel_rfl) (fun _ _ _ h => h) (Or.inl ⟨by rfl, ?_⟩) (by assumption) ?_
        rotate_left 1
        ·intro w hSw
         try dsimp only at hSw
         go_simp
         all_goals with_reducible rfl
        try simp only [Act.put,q3]
        refine wpAnyH_take (i := 13) (oi := ⟨some 72,.binOp .sub 3 (.tmp 71) (.const (.int .i64 1)) 3,3,"ref.go:457",#[⟨12,.data⟩],none⟩) (v := ?_) rfl (by kernel_rfl) (by kernel_rfl) (by kernel_rfl) (fun _ _ _ h => h) (Or.inl ⟨by rfl, ?_⟩) (by assumption) ?_
        rotate_left 1
        ·intro w hSw
         try dsimp only at hSw
         go_simp
         all_goals with_reducible rfl
        try simp only [Act.put,q3]
        refine wpAnyH_ready (rs := [14]) (by kernel_rfl) (by simp) ?_
        refine AllReadyH.cons (o := ⟨some 73,.call { callee := .value (.func 53),args := #[.tmp 70,.tmp 72],argTypes := #[81,3] },3,"ref.go:457",#[⟨11,.data⟩,⟨13,.data⟩],none⟩) rfl (fun K hK => ?_) AllReadyH.nil
        go_simp
        refine (fewd_at (SizeOf.sizeOf r.d + 1) r.d (Nat.lt_succ_self _) _ _ B17 e17 _ HR.out.drew HK.out.2).mono ?_
        rintro e w3 ⟨b,rfl,h3⟩
        refine hK.out _ _ ?_ (fun hHeld => ?_)
        ·exact ⟨(h3).cell 13 rfl,HF.out _ (h3).below 1 (by decide) _ rfl,HF.out _ (h3).below 2 (by decide) _ rfl,HF.out _ (h3).below 3 (by decide) _ rfl,HF.out _ (h3).below 4 (by decide) _ rfl,HF.out _ (h3).below 5 (by decide) _ rfl,HF.out _ (h3).below 6 (by decide) _ rfl,HF.out _ (h3).below 7 (by decide) _ rfl,HF.out _ (h3).below 8 (by decide) _ rfl,HF.out _ (h3).below 9 (by decide) _ rfl,HF.out _ (h3).below 10 (by decide) _ rfl,HF.out _ (h3).below 11 (by decide) _ rfl,HF.out _ (h3).below 12 (by decide) _ rfl,HF.out _ (h3).below 13 (by decide) _ rfl,HF.out _ (h3).below 14 (by decide) _ rfl,HF.out _ (h3).below 15 (by decide) _ rfl,HF.out _ (h3).below 17 (by decide) _ rfl⟩
        clear hK K
        try simp only [Act.put,q3]
        refine wpAnyH_ready (rs := [15]) (by kernel_rfl) (by simp) ?_
        refine AllReadyH.cons (o := ⟨some 74,.call { callee := .value (.func 26),args := #[.tmp 64,.tmp 73],argTypes := #[38,3] },3,"ref.go:457",#[⟨5,.data⟩,⟨14,.data⟩,⟨14,.chain⟩],none⟩) rfl (fun K hK => ?_) AllReadyH.nil
        go_simp
        refine (HI.out.1 r.t HZ.out _ _ _ b h3 HK.out.1).mono ?_
        rintro e w4 ⟨b4,rfl,h4⟩
        refine hK.out _ _ ?_ (fun hHeld => ?_)
        ·exact ⟨(h4).cell 13 rfl,HF.out _ (h4).below 1 (by decide) _ rfl,HF.out _ (h4).below 2 (by decide) _ rfl,HF.out _ (h4).below 3 (by decide) _ rfl,HF.out _ (h4).below 4 (by decide) _ rfl,HF.out _ (h4).below 5 (by decide) _ rfl,HF.out _ (h4).below 6 (by decide) _ rfl,HF.out _ (h4).below 7 (by decide) _ rfl,HF.out _ (h4).below 8 (by decide) _ rfl,HF.out _ (h4).below 9 (by decide) _ rfl,HF.out _ (h4).below 10 (by decide) _ rfl,HF.out _ (h4).below 11 (by decide) _ rfl,HF.out _ (h4).below 12 (by decide) _ rfl,HF.out _ (h4).below 13 (by decide) _ rfl,HF.out _ (h4).below 14 (by decide) _ rfl,HF.out _ (h4).below 15 (by decide) _ rfl,HF.out _ (h4).below 17 (by decide) _ rfl⟩
        clear hK K
        try simp only [Act.put,q3]
        refine wpAnyH_take (i := 16) (oi := ⟨some 1,.assign (.tmp 74),3,"ref.go:457",#[⟨15,.data⟩,⟨15,.chain⟩,⟨0,.phase⟩,⟨1,.phase⟩,⟨2,.phase⟩,⟨3,.phase⟩,⟨4,.phase⟩,⟨5,.phase⟩,⟨6,.phase⟩,⟨7,.phase⟩,⟨8,.phase⟩,⟨9,.phase⟩,⟨10,.phase⟩,⟨11,.phase⟩,⟨12,.phase⟩,⟨13,.phase⟩,⟨14,.phase⟩,⟨15,.phase⟩],none⟩) (v := ?_) rfl (by kernel_rfl) (by kernel_rfl) (by kernel_rfl) (fun _ _ _ h => h) (Or.inl ⟨by rfl, ?_⟩) (by assumption) ?_
        rotate_left 1
        ·intro w hSw
         try dsimp only at hSw
         go_simp
         all_goals with_reducible rfl
        try simp only [Act.put,q3]
        refine wpAnyH_done (by kernel_rfl) ?_ _
        have H4 := Lib.hid h4
        clear h3 h4 hHeld e5
        go_wp2
        exact ⟨⟨b4,x + 1,by omega,by omega,rfl,by go_num,H4⟩,by simp only [intOf]; omega⟩
       ·have p2 : decide (0 ≤ a) = false := decide_eq_false ha
        have p3 : (0 ≤ a) = False := eq_false ha
        have H := Lib.hid HR.out
        clear HR
        have m14 := H.out.cell 14 rfl
        go_wp2
        go_loopw [1,7] (fun v1 v5 wr => ∃ a x : Int,0 ≤ x ∧ x ≤ t.el.length ∧ v1 = .int .i64 a ∧ v5 = .int .i64 x ∧ Hid (S w0 wr (Blk g (.cells #[.int .i64 t.k,.string t.n,.int .i64 t.c.f0,.int .i64 t.c.f1,.int .i64 t.c.f2,.bool t.c.f3,.bool t.c.f4,.slice A7 t.c.f5.length c7,.bool t.e,.string t.fr,.slice A10 t.ns.length c10,.slice A11 t.mo.length c11,.slice A12 t.ps.length c12,.slice A13 t.ad.length c13,.slice A14 t.el.length c14] 38) • Q))) (fun _ v _ => t.el.length - (intOf v).toNat)
        case atStart => exact ⟨_,0,Int.le_refl _,by omega,rfl,rfl,H⟩
        case round =>
         clear H m14
         obtain ⟨a,x,hx0,hx1,rfl,rfl,HR⟩ := hrel
         have e5 := HR.out.cell 14 rfl
         by_cases hlt : x < t.el.length
         ·have q126 : (x < (t.el.length : Int)) = True := eq_true hlt
          by_cases ha : 0 ≤ a
          ·have p2 : decide (0 ≤ a) = true := decide_eq_true ha
           have p3 : (0 ≤ a) = True := eq_true ha
           obtain ⟨ad,cs,eA,hcl0,hKx,hcell0⟩ := Kd.C_get HC.out.2.2.2 zTy x hx0 hlt
           cases eA
           have hcell : ∀ (j : Nat) (u : Value),cs[j]? = some u → w0.cell? (ad.add (x.toNat * 15 + j)) = some u := hcell0
           have HG := Lib.hid (getD_mem t.el zTy x hx0 hlt)
           generalize t.el.getD x.toNat zTy = r at *
           have HK := Lib.hid (And.intro hKx (And.intro hcell (show cs.length = 15 from hcl0)))
           have HZ : Hid (SizeOf.sizeOf r < n) := Lib.hid (by have := el_small (List.mem_of_getElem? HG.out); have := HI.out.2; omega)
           have p126 := eq_true hx0
           clear hcell hcell0 hcl0 hKx
           go_wp2_with (refine held_load 38 _ rfl ?_)
           refine ⟨?_⟩
           refine wpList_load_cells rfl 38 _ rfl _ rfl cs (elem_cells HR.out.below HK.out.2.1) _ Tryz.underlying38 rfl (by rw [HK.out.2.2]; kernel_rfl) ?_
           go_wp2_with fail
           refine (HI.out.1 r HZ.out _ _ cs a HR.out HK.out.1).mono ?_
           rintro e w3 ⟨b,rfl,h3⟩
           have H3 := Lib.hid h3
           clear h3 e5
           go_wp2
           exact ⟨⟨b,x + 1,by omega,by omega,rfl,by go_num,H3⟩,by simp only [intOf]; omega⟩
          ·have p2 : decide (0 ≤ a) = false := decide_eq_false ha
           have p3 : (0 ≤ a) = False := eq_false ha
           go_wp2
           go_ret
           exact ⟨⟨_,rfl⟩,HR.out.drop⟩
         ·have hlt' : (x < (t.el.length : Int)) = False := eq_false hlt
          go_wp2
          go_ret
          exact ⟨⟨_,rfl⟩,HR.out.drop⟩
      ·have hlt' : (x < (t.ad.length : Int)) = False := eq_false hlt
       have H := Lib.hid HR.out
       clear HR
       have m14 := H.out.cell 14 rfl
       go_wp2
       go_loopw [1,7] (fun v1 v5 wr => ∃ a x : Int,0 ≤ x ∧ x ≤ t.el.length ∧ v1 = .int .i64 a ∧ v5 = .int .i64 x ∧ Hid (S w0 wr (Blk g (.cells #[.int .i64 t.k,.string t.n,.int .i64 t.c.f0,.int .i64 t.c.f1,.int .i64 t.c.f2,.bool t.c.f3,.bool t.c.f4,.slice A7 t.c.f5.length c7,.bool t.e,.string t.fr,.slice A10 t.ns.length c10,.slice A11 t.mo.length c11,.slice A12 t.ps.length c12,.slice A13 t.ad.length c13,.slice A14 t.el.length c14] 38) • Q))) (fun _ v _ => t.el.length - (intOf v).toNat)
       case atStart => exact ⟨_,0,Int.le_refl _,by omega,rfl,rfl,H⟩
       case round =>
        clear H m14
        obtain ⟨a,x,hx0,hx1,rfl,rfl,HR⟩ := hrel
        have e5 := HR.out.cell 14 rfl
        by_cases hlt : x < t.el.length
        ·have q126 : (x < (t.el.length : Int)) = True := eq_true hlt
         by_cases ha : 0 ≤ a
         ·have p2 : decide (0 ≤ a) = true := decide_eq_true ha
          have p3 : (0 ≤ a) = True := eq_true ha
          obtain ⟨ad,cs,eA,hcl0,hKx,hcell0⟩ := Kd.C_get HC.out.2.2.2 zTy x hx0 hlt
          cases eA
          have hcell : ∀ (j : Nat) (u : Value),cs[j]? = some u → w0.cell? (ad.add (x.toNat * 15 + j)) = some u := hcell0
          have HG := Lib.hid (getD_mem t.el zTy x hx0 hlt)
          generalize t.el.getD x.toNat zTy = r at *
          have HK := Lib.hid (And.intro hKx (And.intro hcell (show cs.length = 15 from hcl0)))
          have HZ : Hid (SizeOf.sizeOf r < n) := Lib.hid (by have := el_small (List.mem_of_getElem? HG.out); have := HI.out.2; omega)
          have p126 := eq_true hx0
          clear hcell hcell0 hcl0 hKx
          go_wp2_with (refine held_load 38 _ rfl ?_)
          refine ⟨?_⟩
          refine wpList_load_cells rfl 38 _ rfl _ rfl cs (elem_cells HR.out.below HK.out.2.1) _ Tryz.underlying38 rfl (by rw [HK.out.2.2]; kernel_rfl) ?_
          go_wp2_with fail
          refine (HI.out.1 r HZ.out _ _ cs a HR.out HK.out.1).mono ?_
          rintro e w3 ⟨b,rfl,h3⟩
          have H3 := Lib.hid h3
          clear h3 e5
          go_wp2
          exact ⟨⟨b,x + 1,by omega,by omega,rfl,by go_num,H3⟩,by simp only [intOf]; omega⟩
         ·have p2 : decide (0 ≤ a) = false := decide_eq_false ha
          have p3 : (0 ≤ a) = False := eq_false ha
          go_wp2
          go_ret
          exact ⟨⟨_,rfl⟩,HR.out.drop⟩
        ·have hlt' : (x < (t.el.length : Int)) = False := eq_false hlt
         go_wp2
         go_ret
         exact ⟨⟨_,rfl⟩,HR.out.drop⟩
   ·have hlt' : (x < (t.ps.length : Int)) = False := eq_false hlt
    have H := Lib.hid HR.out
    clear HR
    have m13 := H.out.cell 13 rfl
    go_wp2
    go_loopw [1,6] (fun v1 v5 wr => ∃ a x : Int,0 ≤ x ∧ x ≤ t.ad.length ∧ v1 = .int .i64 a ∧ v5 = .int .i64 x ∧ Hid (S w0 wr (Blk g (.cells #[.int .i64 t.k,.string t.n,.int .i64 t.c.f0,.int .i64 t.c.f1,.int .i64 t.c.f2,.bool t.c.f3,.bool t.c.f4,.slice A7 t.c.f5.length c7,.bool t.e,.string t.fr,.slice A10 t.ns.length c10,.slice A11 t.mo.length c11,.slice A12 t.ps.length c12,.slice A13 t.ad.length c13,.slice A14 t.el.length c14] 38) • Q))) (fun _ v _ => t.ad.length - (intOf v).toNat)
    case atStart => exact ⟨_,0,Int.le_refl _,by omega,rfl,rfl,H⟩
    case round =>
     clear H
     obtain ⟨a,x,hx0,hx1,rfl,rfl,HR⟩ := hrel
     have e5 := HR.out.cell 13 rfl
     by_cases hlt : x < t.ad.length
     ·have q126 : (x < (t.ad.length : Int)) = True := eq_true hlt
      by_cases ha : 0 ≤ a
      ·have p2 : decide (0 ≤ a) = true := decide_eq_true ha
       have p3 : (0 ≤ a) = True := eq_true ha
       obtain ⟨ad,cs,eA,hcl0,hKx,hcell0⟩ := Kd.C_get HC.out.2.2.1 zPt x hx0 hlt
       cases eA
       have hcell : ∀ (j : Nat) (u : Value),cs[j]? = some u → w0.cell? (ad.add (x.toNat * 18 + j)) = some u := hcell0
       have HG := Lib.hid (getD_mem t.ad zPt x hx0 hlt)
       generalize t.ad.getD x.toNat zPt = r at *
       obtain ⟨ts,B17,e17,rfl,hT,l17,g17⟩ := kPt_open (show kPt.K w0 r cs from hKx)
       have HK := Lib.hid (And.intro hT g17)
       obtain ⟨B7,e7,B10,e10,B11,e11,B12,e12,B13,e13,B14,e14,rfl, -⟩ := kTy_open hT
       have HF : Hid (∀ W,Below w0.heap.size w0 W → ∀ (j : Nat),0 < j → ∀ u,([.string r.n,.int .i64 r.t.k,.string r.t.n,.int .i64 r.t.c.f0,.int .i64 r.t.c.f1,.int .i64 r.t.c.f2,.bool r.t.c.f3,.bool r.t.c.f4,.slice B7 r.t.c.f5.length e7,.bool r.t.e,.string r.t.fr,.slice B10 r.t.ns.length e10,.slice B11 r.t.mo.length e11,.slice B12 r.t.ps.length e12,.slice B13 r.t.ad.length e13,.slice B14 r.t.el.length e14,.bool r.o,.slice B17 r.d.length e17] : List Value)[j]? = some u → W.cell? ⟨(ad.add (x.toNat * 18)).block,(ad.add (x.toNat * 18)).off + j,none⟩ = some u) := Lib.hid fun W hW j hj u hu => by
        have := pw_cell_below hW (hcell j u hu)
        rwa [add_field ad _ _ hj] at this
       have HZ : Hid (SizeOf.sizeOf r.t < n) := Lib.hid (by have := ad_small (List.mem_of_getElem? HG.out); have := HI.out.2; omega)
       have p126 := eq_true hx0
       clear hcell hcell0 hcl0 hKx hT l17 g17
       go_wp2_with fail
       refine wp_region_held_drew (S := (fun w' => w'.cell? ⟨g,13,none⟩ = some (.slice (some ad) t.ad.length c13) ∧ w'.cell? ⟨(ad.add (x.toNat * 18)).block,(ad.add (x.toNat * 18)).off + 1,none⟩ = some (.int .i64 r.t.k) ∧ w'.cell? ⟨(ad.add (x.toNat * 18)).block,(ad.add (x.toNat * 18)).off + 2,none⟩ = some (.string r.t.n) ∧ w'.cell? ⟨(ad.add (x.toNat * 18)).block,(ad.add (x.toNat * 18)).off + 3,none⟩ = some (.int .i64 r.t.c.f0) ∧ w'.cell? ⟨(ad.add (x.toNat * 18)).block,(ad.add (x.toNat * 18)).off + 4,none⟩ = some (.int .i64 r.t.c.f1) ∧ w'.cell? ⟨(ad.add (x.toNat * 18)).block,(ad.add (x.toNat * 18)).off + 5,none⟩ = some (.int .i64 r.t.c.f2) ∧ w'.cell? ⟨(ad.add (x.toNat * 18)).block,(ad.add (x.toNat * 18)).off + 6,none⟩ = some (.bool r.t.c.f3) ∧ w'.cell? ⟨(ad.add (x.toNat * 18)).block,(ad.add (x.toNat * 18)).off + 7,none⟩ = some (.bool r.t.c.f4) ∧ w'.cell? ⟨(ad.add (x.toNat * 18)).block,(ad.add (x.toNat * 18)).off + 8,none⟩ = some (.slice B7 r.t.c.f5.length e7) ∧ w'.cell? ⟨(ad.add (x.toNat * 18)).block,(ad.add (x.toNat * 18)).off + 9,none⟩ = some (.bool r.t.e) ∧ w'.cell? ⟨(ad.add (x.toNat * 18)).block,(ad.add (x.toNat * 18)).off + 10,none⟩ = some (.string r.t.fr) ∧ w'.cell? ⟨(ad.add (x.toNat * 18)).block,(ad.add (x.toNat * 18)).off + 11,none⟩ = some (.slice B10 r.t.ns.length e10) ∧ w'.cell? ⟨(ad.add (x.toNat * 18)).block,(ad.add (x.toNat * 18)).off + 12,none⟩ = some (.slice B11 r.t.mo.length e11) ∧ w'.cell? ⟨(ad.add (x.toNat * 18)).block,(ad.add (x.toNat * 18)).off + 13,none⟩ = some (.slice B12 r.t.ps.length e12) ∧ w'.cell? ⟨(ad.add (x.toNat * 18)).block,(ad.add (x.toNat * 18)).off + 14,none⟩ = some (.slice B13 r.t.ad.length e13) ∧ w'.cell? ⟨(ad.add (x.toNat * 18)).block,(ad.add (x.toNat * 18)).off + 15,none⟩ = some (.slice B14 r.t.el.length e14) ∧ w'.cell? ⟨(ad.add (x.toNat * 18)).block,(ad.add (x.toNat * 18)).off + 17,none⟩ = some (.slice B17 r.d.length e17))) (by kernel_rfl) ?_ (fun hHeld => ?_)
       ·exact ⟨(HR.out.drew).cell 13 rfl,HF.out _ (HR.out.drew).below 1 (by decide) _ rfl,HF.out _ (HR.out.drew).below 2 (by decide) _ rfl,HF.out _ (HR.out.drew).below 3 (by decide) _ rfl,HF.out _ (HR.out.drew).below 4 (by decide) _ rfl,HF.out _ (HR.out.drew).below 5 (by decide) _ rfl,HF.out _ (HR.out.drew).below 6 (by decide) _ rfl,HF.out _ (HR.out.drew).below 7 (by decide) _ rfl,HF.out _ (HR.out.drew).below 8 (by decide) _ rfl,HF.out _ (HR.out.drew).below 9 (by decide) _ rfl,HF.out _ (HR.out.drew).below 10 (by decide) _ rfl,HF.out _ (HR.out.drew).below 11 (by decide) _ rfl,HF.out _ (HR.out.drew).below 12 (by decide) _ rfl,HF.out _ (HR.out.drew).below 13 (by decide) _ rfl,HF.out _ (HR.out.drew).below 14 (by decide) _ rfl,HF.out _ (HR.out.drew).below 15 (by decide) _ rfl,HF.out _ (HR.out.drew).below 17 (by decide) _ rfl⟩
       refine wpAnyH_take (i := 0) (oi := ⟨some 59,.fieldAddr 38 (.tmp 2) 8,0,"ref.go:457",#[],none⟩) (v := ?_) rfl (by kernel_rfl) (by kernel_rfl) (by kernel_rfl) (fun _ _ _ h => h) (Or.inl ⟨by rfl, ?_⟩) (by assumption) ?_
       rotate_left 1
       ·intro w hSw
        try dsimp only at hSw
        go_simp
        all_goals with_reducible rfl
       try simp only [Act.put,q3]
       refine wpAnyH_take (i := 1) (oi := ⟨some 60,.load 35 (.tmp 59),35,"ref.go:457",#[⟨0,.data⟩],none⟩) (v := ?_) rfl (by kernel_rfl) (by kernel_rfl) (by kernel_rfl) (fun _ _ _ h => h) (Or.inl ⟨by rfl, ?_⟩) (by assumption) ?_
       rotate_left 1
       ·intro w hSw
        try dsimp only at hSw
        go_simp
        all_goals with_reducible rfl
       try simp only [Act.put,q3]
       refine wpAnyH_take (i := 2) (oi := ⟨some 61,.move (.tmp 6),3,"ref.go:457",#[],none⟩) (v := ?_) rfl (by kernel_rfl) (by kernel_rfl) (by kernel_rfl) (fun _ _ _ h => h) (Or.inl ⟨by rfl, ?_⟩) (by assumption) ?_
       rotate_left 1
       ·intro w hSw
        try dsimp only at hSw
        go_simp
        all_goals with_reducible rfl
       try simp only [Act.put,q3]
       refine wpAnyH_take (i := 3) (oi := ⟨some 62,.indexAddr 35 (.tmp 60) (.tmp 61),0,"ref.go:457",#[⟨1,.data⟩,⟨2,.data⟩],none⟩) (v := ?_) rfl (by kernel_rfl) (by kernel_rfl) (by kernel_rfl) (fun _ _ _ h => h) (Or.inl ⟨by rfl, ?_⟩) (by assumption) ?_
       rotate_left 1
       ·intro w hSw
        try dsimp only at hSw
        go_simp
        all_goals with_reducible rfl
       try simp only [Act.put,q3]
       refine wpAnyH_take (i := 4) (oi := ⟨some 63,.fieldAddr 83 (.tmp 62) 1,0,"ref.go:457",#[⟨3,.data⟩],none⟩) (v := ?_) rfl (by kernel_rfl) (by kernel_rfl) (by kernel_rfl) (fun _ _ _ h => h) (Or.inl ⟨by rfl, ?_⟩) (by assumption) ?_
       rotate_left 1
       ·intro w hSw
        try dsimp only at hSw
        go_simp
        all_goals with_reducible rfl
       try simp only [Act.put,q3]
       refine wpAnyH_take (i := 5) (oi := ⟨some 64,.load 38 (.tmp 63),38,"ref.go:457",#[⟨4,.data⟩],none⟩) (v := ?_) rfl (by kernel_rfl) (by kernel_rfl) (by kernel_rfl) (fun _ _ _ h => h) (Or.inl ⟨by rfl, ?_⟩) (by assumption) ?_
       rotate_left 1
       ·intro w hSw
        try dsimp only at hSw
        go_simp
        all_goals with_reducible rfl
       try simp only [Act.put,q3]
       refine wpAnyH_take (i := 6) (oi := ⟨some 65,.fieldAddr 38 (.tmp 2) 8,0,"ref.go:457",#[],none⟩) (v := ?_) rfl (by kernel_rfl) (by kernel_rfl) (by kernel_rfl) (fun _ _ _ h => h) (Or.inl ⟨by rfl, ?_⟩) (by assumption) ?_
       rotate_left 1
       ·intro w hSw
        try dsimp only at hSw
        go_simp
        all_goals with_reducible rfl
       try simp only [Act.put,q3]
       refine wpAnyH_take (i := 7) (oi := ⟨some 66,.load 35 (.tmp 65),35,"ref.go:457",#[⟨6,.data⟩],none⟩) (v := ?_) rfl (by kernel_rfl) (by kernel_rfl) (by kernel_rfl) (fun _ _ _ h => h) (Or.inl ⟨by rfl, ?_⟩) (by assumption) ?_
       rotate_left 1
       ·intro w hSw
        try dsimp only at hSw
        go_simp
        all_goals with_reducible rfl
       try simp only [Act.put,q3]
       refine wpAnyH_take (i := 8) (oi := ⟨some 67,.move (.tmp 6),3,"ref.go:457",#[],none⟩) (v := ?_) rfl (by kernel_rfl) (by kernel_rfl) (by kernel_rfl) (fun _ _ _ h => h) (Or.inl ⟨by rfl, ?_⟩) (by assumption) ?_
       rotate_left 1
       ·intro w hSw
        try dsimp only at hSw
        go_simp
        all_goals with_reducible rfl
       try simp only [Act.put,q3]
       refine wpAnyH_take (i := 9) (oi := ⟨some 68,.indexAddr 35 (.tmp 66) (.tmp 67),0,"ref.go:457",#[⟨7,.data⟩,⟨8,.data⟩],none⟩) (v := ?_) rfl (by kernel_rfl) (by kernel_rfl) (by kernel_rfl) (fun _ _ _ h => h) (Or.inl ⟨by rfl, ?_⟩) (by assumption) ?_
       rotate_left 1
       ·intro w hSw
        try dsimp only at hSw
        go_simp
        all_goals with_reducible rfl
       try simp only [Act.put,q3]
       refine wpAnyH_take (i := 10) (oi := ⟨some 69,.fieldAddr 83 (.tmp 68) 3,0,"ref.go:457",#[⟨9,.data⟩],none⟩) (v := ?_) rfl (by kernel_rfl) (by kernel_rfl) (by kernel_rfl) (fun _ _ _ h => h) (Or.inl ⟨by rfl, ?_⟩) (by assumption) ?_
       rotate_left 1
       ·intro w hSw
        try dsimp only at hSw
        go_simp
        all_goals with_reducible rfl
       try simp only [Act.put,q3]
       refine wpAnyH_take (i := 11) (oi := ⟨some 70,.load 81 (.tmp 69),81,"ref.go:457",#[⟨10,.data⟩],none⟩) (v := ?_) rfl (by kernel_rfl) (by kernel_rfl) (by kernel_rfl) (fun _ _ _ h => h) (Or.inl ⟨by rfl, ?_⟩) (by assumption) ?_
       rotate_left 1
       ·intro w hSw
        try dsimp only at hSw
        go_simp
        all_goals with_reducible rfl
       try simp only [Act.put,q3]
       refine wpAnyH_take (i := 12) (oi := ⟨some 71,.move (.tmp 1),3,"ref.go:457",#[],none⟩) (v := ?_) rfl (by kernel_rfl) (by kernel_rfl) (by kernel_rfl) (fun _ _ _ h => h) (Or.inl ⟨by rfl, ?_⟩) (by assumption) ?_
       rotate_left 1
       ·intro w hSw
        try dsimp only at hSw
        go_simp
        all_goals with_reducible rfl
       try simp only [Act.put,q3]
       refine wpAnyH_take (i := 13) (oi := ⟨some 72,.binOp .sub 3 (.tmp 71) (.const (.int .i64 1)) 3,3,"ref.go:457",#[⟨12,.data⟩],none⟩) (v := ?_) rfl (by kernel_rfl) (by kernel_rfl) (by kernel_rfl) (fun _ _ _ h => h) (Or.inl ⟨by rfl, ?_⟩) (by assumption) ?_
       rotate_left 1
       ·intro w hSw
        try dsimp only at hSw
        go_simp
        all_goals with_reducible rfl
       try simp only [Act.put,q3]
       refine wpAnyH_ready (rs := [14]) (by kernel_rfl) (by simp) ?_
       refine AllReadyH.cons (o := ⟨some 73,.call { callee := .value (.func 53),args := #[.tmp 70,.tmp 72],argTypes := #[81,3] },3,"ref.go:457",#[⟨11,.data⟩,⟨13,.data⟩],none⟩) rfl (fun K hK => ?_) AllReadyH.nil
       go_simp
       refine (fewd_at (SizeOf.sizeOf r.d + 1) r.d (Nat.lt_succ_self _) _ _ B17 e17 _ HR.out.drew HK.out.2).mono ?_
       rintro e w3 ⟨b,rfl,h3⟩
       refine hK.out _ _ ?_ (fun hHeld => ?_)
       ·exact ⟨(h3).cell 13 rfl,HF.out _ (h3).below 1 (by decide) _ rfl,HF.out _ (h3).below 2 (by decide) _ rfl,HF.out _ (h3).below 3 (by decide) _ rfl,HF.out _ (h3).below 4 (by decide) _ rfl,HF.out _ (h3).below 5 (by decide) _ rfl,HF.out _ (h3).below 6 (by decide) _ rfl,HF.out _ (h3).below 7 (by decide) _ rfl,HF.out _ (h3).below 8 (by decide) _ rfl,HF.out _ (h3).below 9 (by decide) _ rfl,HF.out _ (h3).below 10 (by decide) _ rfl,HF.out _ (h3).below 11 (by decide) _ rfl,HF.out _ (h3).below 12 (by decide) _ rfl,HF.out _ (h3).below 13 (by decide) _ rfl,HF.out _ (h3).below 14 (by decide) _ rfl,HF.out _ (h3).below 15 (by decide) _ rfl,HF.out _ (h3).below 17 (by decide) _ rfl⟩
       clear hK K
       try simp only [Act.put,q3]
       refine wpAnyH_ready (rs := [15]) (by kernel_rfl) (by simp) ?_
       refine AllReadyH.cons (o := ⟨some 74,.call { callee := .value (.func 26),args := #[.tmp 64,.tmp 73],argTypes := #[38,3] },3,"ref.go:457",#[⟨5,.data⟩,⟨14,.data⟩,⟨14,.chain⟩],none⟩) rfl (fun K hK => ?_) AllReadyH.nil
       go_simp
       refine (HI.out.1 r.t HZ.out _ _ _ b h3 HK.out.1).mono ?_
       rintro e w4 ⟨b4,rfl,h4⟩
       refine hK.out _ _ ?_ (fun hHeld => ?_)
       ·exact ⟨(h4).cell 13 rfl,HF.out _ (h4).below 1 (by decide) _ rfl,HF.out _ (h4).below 2 (by decide) _ rfl,HF.out _ (h4).below 3 (by decide) _ rfl,HF.out _ (h4).below 4 (by decide) _ rfl,HF.out _ (h4).below 5 (by decide) _ rfl,HF.out _ (h4).below 6 (by decide) _ rfl,HF.out _ (h4).below 7 (by decide) _ rfl,HF.out _ (h4).below 8 (by decide) _ rfl,HF.out _ (h4).below 9 (by decide) _ rfl,HF.out _ (h4).below 10 (by decide) _ rfl,HF.out _ (h4).below 11 (by decide) _ rfl,HF.out _ (h4).below 12 (by decide) _ rfl,HF.out _ (h4).below 13 (by decide) _ rfl,HF.out _ (h4).below 14 (by decide) _ rfl,HF.out _ (h4).below 15 (by decide) _ rfl,HF.out _ (h4).below 17 (by decide) _ rfl⟩
       clear hK K
       try simp only [Act.put,q3]
       refine wpAnyH_take (i := 16) (oi := ⟨some 1,.assign (.tmp 74),3,"ref.go:457",#[⟨15,.data⟩,⟨15,.chain⟩,⟨0,.phase⟩,⟨1,.phase⟩,⟨2,.phase⟩,⟨3,.phase⟩,⟨4,.phase⟩,⟨5,.phase⟩,⟨6,.phase⟩,⟨7,.phase⟩,⟨8,.phase⟩,⟨9,.phase⟩,⟨10,.phase⟩,⟨11,.phase⟩,⟨12,.phase⟩,⟨13,.phase⟩,⟨14,.phase⟩,⟨15,.phase⟩],none⟩) (v := ?_) rfl (by kernel_rfl) (by kernel_rfl) (by kernel_rfl) (fun _ _ _ h => h) (Or.inl ⟨by rfl, ?_⟩) (by assumption) ?_
       rotate_left 1
       ·intro w hSw
        try dsimp only at hSw
        go_simp
        all_goals with_reducible rfl
       try simp only [Act.put,q3]
       refine wpAnyH_done (by kernel_rfl) ?_ _
       have H4 := Lib.hid h4
       clear h3 h4 hHeld e5
       go_wp2
       exact ⟨⟨b4,x + 1,by omega,by omega,rfl,by go_num,H4⟩,by simp only [intOf]; omega⟩
      ·have p2 : decide (0 ≤ a) = false := decide_eq_false ha
       have p3 : (0 ≤ a) = False := eq_false ha
       have H := Lib.hid HR.out
       clear HR
       have m14 := H.out.cell 14 rfl
       go_wp2
       go_loopw [1,7] (fun v1 v5 wr => ∃ a x : Int,0 ≤ x ∧ x ≤ t.el.length ∧ v1 = .int .i64 a ∧ v5 = .int .i64 x ∧ Hid (S w0 wr (Blk g (.cells #[.int .i64 t.k,.string t.n,.int .i64 t.c.f0,.int .i64 t.c.f1,.int .i64 t.c.f2,.bool t.c.f3,.bool t.c.f4,.slice A7 t.c.f5.length c7,.bool t.e,.string t.fr,.slice A10 t.ns.length c10,.slice A11 t.mo.length c11,.slice A12 t.ps.length c12,.slice A13 t.ad.length c13,.slice A14 t.el.length c14] 38) • Q))) (fun _ v _ => t.el.length - (intOf v).toNat)
       case atStart => exact ⟨_,0,Int.le_refl _,by omega,rfl,rfl,H⟩
       case round =>
        clear H m14
        obtain ⟨a,x,hx0,hx1,rfl,rfl,HR⟩ := hrel
        have e5 := HR.out.cell 14 rfl
        by_cases hlt : x < t.el.length
        ·have q126 : (x < (t.el.length : Int)) = True := eq_true hlt
         by_cases ha : 0 ≤ a
         ·have p2 : decide (0 ≤ a) = true := decide_eq_true ha
          have p3 : (0 ≤ a) = True := eq_true ha
          obtain ⟨ad,cs,eA,hcl0,hKx,hcell0⟩ := Kd.C_get HC.out.2.2.2 zTy x hx0 hlt
          cases eA
          have hcell : ∀ (j : Nat) (u : Value),cs[j]? = some u → w0.cell? (ad.add (x.toNat * 15 + j)) = some u := hcell0
          have HG := Lib.hid (getD_mem t.el zTy x hx0 hlt)
          generalize t.el.getD x.toNat zTy = r at *
          have HK := Lib.hid (And.intro hKx (And.intro hcell (show cs.length = 15 from hcl0)))
          have HZ : Hid (SizeOf.sizeOf r < n) := Lib.hid (by have := el_small (List.mem_of_getElem? HG.out); have := HI.out.2; omega)
          have p126 := eq_true hx0
          clear hcell hcell0 hcl0 hKx
          go_wp2_with (refine held_load 38 _ rfl ?_)
          refine ⟨?_⟩
          refine wpList_load_cells rfl 38 _ rfl _ rfl cs (elem_cells HR.out.below HK.out.2.1) _ Tryz.underlying38 rfl (by rw [HK.out.2.2]; kernel_rfl) ?_
          go_wp2_with fail
          refine (HI.out.1 r HZ.out _ _ cs a HR.out HK.out.1).mono ?_
          rintro e w3 ⟨b,rfl,h3⟩
          have H3 := Lib.hid h3
          clear h3 e5
          go_wp2
          exact ⟨⟨b,x + 1,by omega,by omega,rfl,by go_num,H3⟩,by simp only [intOf]; omega⟩
         ·have p2 : decide (0 ≤ a) = false := decide_eq_false ha
          have p3 : (0 ≤ a) = False := eq_false ha
          go_wp2
          go_ret
          exact ⟨⟨_,rfl⟩,HR.out.drop⟩
        ·have hlt' : (x < (t.el.length : Int)) = False := eq_false hlt
         go_wp2
         go_ret
         exact ⟨⟨_,rfl⟩,HR.out.drop⟩
     ·have hlt' : (x < (t.ad.length : Int)) = False := eq_false hlt
      have H := Lib.hid HR.out
      clear HR
      have m14 := H.out.cell 14 rfl
      go_wp2
      go_loopw [1,7] (fun v1 v5 wr => ∃ a x : Int,0 ≤ x ∧ x ≤ t.el.length ∧ v1 = .int .i64 a ∧ v5 = .int .i64 x ∧ Hid (S w0 wr (Blk g (.cells #[.int .i64 t.k,.string t.n,.int .i64 t.c.f0,.int .i64 t.c.f1,.int .i64 t.c.f2,.bool t.c.f3,.bool t.c.f4,.slice A7 t.c.f5.length c7,.bool t.e,.string t.fr,.slice A10 t.ns.length c10,.slice A11 t.mo.length c11,.slice A12 t.ps.length c12,.slice A13 t.ad.length c13,.slice A14 t.el.length c14] 38) • Q))) (fun _ v _ => t.el.length - (intOf v).toNat)
      case atStart => exact ⟨_,0,Int.le_refl _,by omega,rfl,rfl,H⟩
      case round =>
       clear H m14
       obtain ⟨a,x,hx0,hx1,rfl,rfl,HR⟩ := hrel
       have e5 := HR.out.cell 14 rfl
       by_cases hlt : x < t.el.length
       ·have q126 : (x < (t.el.length : Int)) = True := eq_true hlt
        by_cases ha : 0 ≤ a
        ·have p2 : decide (0 ≤ a) = true := decide_eq_true ha
         have p3 : (0 ≤ a) = True := eq_true ha
         obtain ⟨ad,cs,eA,hcl0,hKx,hcell0⟩ := Kd.C_get HC.out.2.2.2 zTy x hx0 hlt
         cases eA
         have hcell : ∀ (j : Nat) (u : Value),cs[j]? = some u → w0.cell? (ad.add (x.toNat * 15 + j)) = some u := hcell0
         have HG := Lib.hid (getD_mem t.el zTy x hx0 hlt)
         generalize t.el.getD x.toNat zTy = r at *
         have HK := Lib.hid (And.intro hKx (And.intro hcell (show cs.length = 15 from hcl0)))
         have HZ : Hid (SizeOf.sizeOf r < n) := Lib.hid (by have := el_small (List.mem_of_getElem? HG.out); have := HI.out.2; omega)
         have p126 := eq_true hx0
         clear hcell hcell0 hcl0 hKx
         go_wp2_with (refine held_load 38 _ rfl ?_)
         refine ⟨?_⟩
         refine wpList_load_cells rfl 38 _ rfl _ rfl cs (elem_cells HR.out.below HK.out.2.1) _ Tryz.underlying38 rfl (by rw [HK.out.2.2]; kernel_rfl) ?_
         go_wp2_with fail
         refine (HI.out.1 r HZ.out _ _ cs a HR.out HK.out.1).mono ?_
         rintro e w3 ⟨b,rfl,h3⟩
         have H3 := Lib.hid h3
         clear h3 e5
         go_wp2
         exact ⟨⟨b,x + 1,by omega,by omega,rfl,by go_num,H3⟩,by simp only [intOf]; omega⟩
        ·have p2 : decide (0 ≤ a) = false := decide_eq_false ha
         have p3 : (0 ≤ a) = False := eq_false ha
         go_wp2
         go_ret
         exact ⟨⟨_,rfl⟩,HR.out.drop⟩
       ·have hlt' : (x < (t.el.length : Int)) = False := eq_false hlt
        go_wp2
        go_ret
        exact ⟨⟨_,rfl⟩,HR.out.drop⟩
set_option maxHeartbeats 16000000 in
set_option maxRecDepth 100000 in
theorem few_calls (t : Ty) (cs : List Value) (n : Int) (h : S w0 w R) (hK : kTy.K w0 t cs) : Calls Tryz.prog 10 #[.agg cs.toArray,.int .i64 n] w fun e w' => ∃ b,e = .returned (.bool b) ∧ S w0 w' R := by
 have H := Lib.hid (h.alloc (.cells cs.toArray 38))
 have HK := Lib.hid (And.intro hK (show cs.length = 15 from kTy.K_len hK))
 clear h hK
 go_enter Tryz.func10,Tryz.ntmps10
 go_wp2_with (refine held_load 38 _ rfl ?_)
 refine ⟨?_⟩
 refine wpList_load_row rfl 38 _ rfl w.heap.size rfl _ _ _ _ H.out.block Tryz.underlying38 rfl (by rw [List.size_toArray,HK.out.2]; kernel_rfl) ?_
 go_wp2_with fail
 refine (fewt_at (SizeOf.sizeOf t + 1) t (Nat.lt_succ_self _) _ _ cs n H.out HK.out.1).mono ?_
 rintro e w1 ⟨r,rfl,h1⟩
 have H1 := Lib.hid h1
 clear h1
 by_cases hr : 0 ≤ r
 ·have p1 : decide (0 ≤ r) = true := decide_eq_true hr
  have p2 : (0 ≤ r) = True := eq_true hr
  go_wp2
  go_ret
  exact ⟨_,rfl,H1.out.drop⟩
 ·have p1 : decide (0 ≤ r) = false := decide_eq_false hr
  have p2 : (0 ≤ r) = False := eq_false hr
  go_wp2
  go_ret
  exact ⟨_,rfl,H1.out.drop⟩
end Go.Proofs.YtbjddomocggjmaaGreat.Sc
end
