/- finite of scope: walked. -/
import Derived.Test.YtbjddomocggjmaaGreatLAd
namespace Go.Proofs.YtbjddomocggjmaaGreat.Sc
open Go.RowKit Go.ChangeShapes Go.WideShapes Go.Proofs.YtbjddomocggjmaaGreat.Sep
open Go.Proofs.YtbjddomocggjmaaGreatW.PrintWords
variable {B : Nat} {w0 w : World} {R : HP}
set_option maxHeartbeats 16000000 in
set_option maxRecDepth 100000 in
theorem fin_step (kb : Nat) (K : List (List UInt8)) (n : Nat) (ih : FinAt w0 kb K n) : FinAt w0 kb K (n + 1) := by
 intro W Q t cs h hK hd
 have eg1 : ∀ args w,(callFunc 65 args).run Tryz.prog w = .ok (.enter 65 args) w := enters_of Tryz.func65 (by kernel_rfl) rfl
 have eg2 : ∀ args w,(callFunc 66 args).run Tryz.prog w = .ok (.enter 66 args) w := enters_of Tryz.func66 (by kernel_rfl) rfl
 have hs : t.n.size ≤ maxLen := hd.1
 obtain ⟨A7,c7,A10,c10,A11,c11,A12,c12,A13,c13,A14,c14,rfl,l7,g7,l10,g10,l11,g11,l12,g12,l13,g13,l14,g14⟩ := kTy_open hK
 have HP := Lib.hid (And.intro l12 (And.intro g12 (And.intro l14 g14)))
 have HD := Lib.hid hd
 have HI := Lib.hid ih
 show Calls Tryz.prog 40 #[.map (some kb),.agg #[.int .i64 t.k,.string t.n,.int .i64 t.c.f0,.int .i64 t.c.f1,.int .i64 t.c.f2,.bool t.c.f3,.bool t.c.f4,.slice A7 t.c.f5.length c7,.bool t.e,.string t.fr,.slice A10 t.ns.length c10,.slice A11 t.mo.length c11,.slice A12 t.ps.length c12,.slice A13 t.ad.length c13,.slice A14 t.el.length c14]] W _
 generalize hg : W.heap.size = g
 have H := Lib.hid (alloc_at (n := g + 1) (alloc_at (n := g) h (.cells #[.map (some kb)] 57) hg.symm) (.cells #[.int .i64 t.k,.string t.n,.int .i64 t.c.f0,.int .i64 t.c.f1,.int .i64 t.c.f2,.bool t.c.f3,.bool t.c.f4,.slice A7 t.c.f5.length c7,.bool t.e,.string t.fr,.slice A10 t.ns.length c10,.slice A11 t.mo.length c11,.slice A12 t.ps.length c12,.slice A13 t.ad.length c13,.slice A14 t.el.length c14] 38) (by simp [hg]))
 have d0 := H.out.cell 0 rfl
 have b0 := H.out.two.cell 0 rfl
 have HG := Lib.hid (fun (p : Pt Ty) (hp : p ∈ t.ps) => HD.out.2.1 p hp)
 have HF1 := Lib.hid (fin1_tells (R := Blk (g + 1) (.cells #[.int .i64 t.k,.string t.n,.int .i64 t.c.f0,.int .i64 t.c.f1,.int .i64 t.c.f2,.bool t.c.f3,.bool t.c.f4,.slice A7 t.c.f5.length c7,.bool t.e,.string t.fr,.slice A10 t.ns.length c10,.slice A11 t.mo.length c11,.slice A12 t.ps.length c12,.slice A13 t.ad.length c13,.slice A14 t.el.length c14] 38) • Q) kb K n ih t.ps HG.out g)
 have HF2 := Lib.hid (fin2_tells (R := Blk (g + 1) (.cells #[.int .i64 t.k,.string t.n,.int .i64 t.c.f0,.int .i64 t.c.f1,.int .i64 t.c.f2,.bool t.c.f3,.bool t.c.f4,.slice A7 t.c.f5.length c7,.bool t.e,.string t.fr,.slice A10 t.ns.length c10,.slice A11 t.mo.length c11,.slice A12 t.ps.length c12,.slice A13 t.ad.length c13,.slice A14 t.el.length c14] 38) • Q) kb K n ih t.ps HG.out g)
 clear h hd ih hK l7 g7 l10 g10 l11 g11 l12 g12 l13 g13 l14 g14
 unfold finT
 by_cases hk : t.k = 11
 ·have p11 : (t.k == 11) = true := beq_iff_eq.2 hk
  have p9 : (t.k == 9) = false := beq_eq_false_iff_ne.2 (by omega)
  have p8 : (t.k == 8) = false := beq_eq_false_iff_ne.2 (by omega)
  have p10 : (t.k == 10) = false := beq_eq_false_iff_ne.2 (by omega)
  have lk := mv_look Tryz.underlying57 (zero_bool _) H.out.three t.n hs
  rw [look_set] at lk
  have d1 := H.out.cell 1 rfl
  rw [if_pos hk]
  clear hk
  generalize K.contains t.n.data.toList = q at *
  go_enter Tryz.func40,Tryz.ntmps40
  go_wp2
  go_ret
  exact ⟨rfl,H.out.drop.drop⟩
 have n11 := hk
 rw [if_neg hk]
 clear hk
 by_cases hk : t.k = 9
 ·have p11 : (t.k == 11) = false := beq_eq_false_iff_ne.2 (by omega)
  have p9 : (t.k == 9) = true := beq_iff_eq.2 hk
  have p8 : (t.k == 8) = false := beq_eq_false_iff_ne.2 (by omega)
  have p10 : (t.k == 10) = false := beq_eq_false_iff_ne.2 (by omega)
  rw [if_pos hk]
  clear hk n11
  cases q1 : emptyB t.c with
  | true =>
   go_enter Tryz.func40,Tryz.ntmps40
   go_wp2_with fail
   refine wp_region_held_drew (S := (fun w' => w'.cell? ⟨g,0,none⟩ = some (.map (some kb)) ∧ w'.cell? ⟨g + 1,2,none⟩ = some (.int .i64 t.c.f0) ∧ w'.cell? ⟨g + 1,3,none⟩ = some (.int .i64 t.c.f1) ∧ w'.cell? ⟨g + 1,4,none⟩ = some (.int .i64 t.c.f2) ∧ w'.cell? ⟨g + 1,5,none⟩ = some (.bool t.c.f3) ∧ w'.cell? ⟨g + 1,6,none⟩ = some (.bool t.c.f4) ∧ w'.cell? ⟨g + 1,7,none⟩ = some (.slice A7 t.c.f5.length c7) ∧ w'.cell? ⟨g + 1,14,none⟩ = some (.slice A14 t.el.length c14))) (by kernel_rfl) ?_ (fun hHeld => ?_)
   ·exact ⟨(H.out.drew).two.cell 0 rfl,(H.out.drew).cell 2 rfl,(H.out.drew).cell 3 rfl,(H.out.drew).cell 4 rfl,(H.out.drew).cell 5 rfl,(H.out.drew).cell 6 rfl,(H.out.drew).cell 7 rfl,(H.out.drew).cell 14 rfl⟩
   refine wpAnyH_take (i := 0) (oi := ⟨some 15,.fieldAddr 38 (.tmp 3) 2,0,"scope.go:170",#[],none⟩) (v := ?_) rfl (by kernel_rfl) (by kernel_rfl) (by kernel_rfl) (fun _ _ _ h => h) (Or.inl ⟨by rfl, ?_⟩) (by assumption) ?_
   rotate_left 1
   ·intro w hSw
    try dsimp only at hSw
    go_simp
    all_goals with_reducible rfl
   try simp only [Act.put,q3]
   refine wpAnyH_take (i := 1) (oi := ⟨some 16,.load 33 (.tmp 15),33,"scope.go:170",#[⟨0,.data⟩],none⟩) (v := ?_) rfl (by kernel_rfl) (by kernel_rfl) (by kernel_rfl) (fun _ _ _ h => h) (Or.inl ⟨by rfl, ?_⟩) (by assumption) ?_
   rotate_left 1
   ·intro w hSw
    try dsimp only at hSw
    go_simp
    all_goals with_reducible rfl
   try simp only [Act.put,q3]
   refine wpAnyH_ready (rs := [2]) (by kernel_rfl) (by simp) ?_
   refine AllReadyH.cons (o := ⟨some 17,.call { callee := .value (.func 63),args := #[.tmp 16],argTypes := #[33] },4,"scope.go:170",#[⟨1,.data⟩],none⟩) rfl (fun K hK => ?_) AllReadyH.nil
   go_simp
   refine (empty_calls t.c A7 c7 H.out.drew).mono ?_
   rintro e w2 ⟨rfl,h2⟩
   rw [q1]
   refine hK.out _ _ ?_ (fun hHeld => ?_)
   ·exact ⟨(h2).two.cell 0 rfl,(h2).cell 2 rfl,(h2).cell 3 rfl,(h2).cell 4 rfl,(h2).cell 5 rfl,(h2).cell 6 rfl,(h2).cell 7 rfl,(h2).cell 14 rfl⟩
   clear hK K
   try simp only [Act.put,q3]
   refine wpAnyH_take (i := 3) (oi := ⟨some 18,.move (.tmp 17),4,"scope.go:170",#[⟨2,.data⟩,⟨2,.chain⟩],none⟩) (v := ?_) rfl (by kernel_rfl) (by kernel_rfl) (by kernel_rfl) (fun _ _ _ h => h) (Or.inl ⟨by rfl, ?_⟩) (by assumption) ?_
   rotate_left 1
   ·intro w hSw
    try dsimp only at hSw
    go_simp
    all_goals with_reducible rfl
   try simp only [Act.put,q3]
   refine wpAnyH_take (i := 4) (oi := ⟨some 19,.fieldAddr 38 (.tmp 3) 9,0,"scope.go:170",#[⟨3,.guard⟩],some (3,false)⟩) (v := undef) rfl (by kernel_rfl) (by kernel_rfl) (by kernel_rfl) (fun _ _ _ h => h) (Or.inr ⟨by rfl,rfl⟩) (by assumption) ?_
   try simp only [Act.put,q3]
   refine wpAnyH_take (i := 5) (oi := ⟨some 20,.load 36 (.tmp 19),36,"scope.go:170",#[⟨4,.data⟩,⟨3,.guard⟩],some (3,false)⟩) (v := undef) rfl (by kernel_rfl) (by kernel_rfl) (by kernel_rfl) (fun _ _ _ h => h) (Or.inr ⟨by rfl,rfl⟩) (by assumption) ?_
   try simp only [Act.put,q3]
   refine wpAnyH_take (i := 6) (oi := ⟨some 21,.call { callee := .builtin .len,args := #[.tmp 20],argTypes := #[36] },3,"scope.go:170",#[⟨5,.data⟩,⟨3,.guard⟩],some (3,false)⟩) (v := undef) rfl (by kernel_rfl) (by kernel_rfl) (by kernel_rfl) (fun _ _ _ h => h) (Or.inr ⟨by rfl,rfl⟩) (by assumption) ?_
   try simp only [Act.put,q3]
   refine wpAnyH_take (i := 7) (oi := ⟨some 22,.binOp .eql 3 (.tmp 21) (.const (.int .i64 1)) 3,4,"scope.go:170",#[⟨6,.data⟩,⟨3,.guard⟩],some (3,false)⟩) (v := undef) rfl (by kernel_rfl) (by kernel_rfl) (by kernel_rfl) (fun _ _ _ h => h) (Or.inr ⟨by rfl,rfl⟩) (by assumption) ?_
   try simp only [Act.put,q3]
   refine wpAnyH_take (i := 8) (oi := ⟨some 23,.move (.tmp 22),4,"scope.go:170",#[⟨7,.data⟩,⟨3,.chain⟩,⟨3,.guard⟩],some (3,false)⟩) (v := undef) rfl (by kernel_rfl) (by kernel_rfl) (by kernel_rfl) (fun _ _ _ h => h) (Or.inr ⟨by rfl,rfl⟩) (by assumption) ?_
   try simp only [Act.put,q3]
   refine wpAnyH_take (i := 9) (oi := ⟨some 24,.load 57 (.tmp 2),57,"scope.go:170",#[⟨8,.guard⟩],some (8,true)⟩) (v := undef) rfl (by kernel_rfl) (by kernel_rfl) (by kernel_rfl) (fun _ _ _ h => h) (Or.inr ⟨by rfl,rfl⟩) (by assumption) ?_
   try simp only [Act.put,q3]
   refine wpAnyH_take (i := 10) (oi := ⟨some 25,.fieldAddr 38 (.tmp 3) 9,0,"scope.go:170",#[⟨8,.guard⟩],some (8,true)⟩) (v := undef) rfl (by kernel_rfl) (by kernel_rfl) (by kernel_rfl) (fun _ _ _ h => h) (Or.inr ⟨by rfl,rfl⟩) (by assumption) ?_
   try simp only [Act.put,q3]
   refine wpAnyH_take (i := 11) (oi := ⟨some 26,.load 36 (.tmp 25),36,"scope.go:170",#[⟨10,.data⟩,⟨8,.guard⟩],some (8,true)⟩) (v := undef) rfl (by kernel_rfl) (by kernel_rfl) (by kernel_rfl) (fun _ _ _ h => h) (Or.inr ⟨by rfl,rfl⟩) (by assumption) ?_
   try simp only [Act.put,q3]
   refine wpAnyH_take (i := 12) (oi := ⟨some 27,.indexAddr 36 (.tmp 26) (.const (.int .i64 0)),0,"scope.go:170",#[⟨11,.data⟩,⟨8,.guard⟩],some (8,true)⟩) (v := undef) rfl (by kernel_rfl) (by kernel_rfl) (by kernel_rfl) (fun _ _ _ h => h) (Or.inr ⟨by rfl,rfl⟩) (by assumption) ?_
   try simp only [Act.put,q3]
   refine wpAnyH_take (i := 13) (oi := ⟨some 28,.load 38 (.tmp 27),38,"scope.go:170",#[⟨12,.data⟩,⟨8,.guard⟩],some (8,true)⟩) (v := undef) rfl (by kernel_rfl) (by kernel_rfl) (by kernel_rfl) (fun _ _ _ h => h) (Or.inr ⟨by rfl,rfl⟩) (by assumption) ?_
   try simp only [Act.put,q3]
   refine wpAnyH_take (i := 14) (oi := ⟨some 29,.call { callee := .value (.func 40),args := #[.tmp 24,.tmp 28],argTypes := #[57,38] },4,"scope.go:170",#[⟨9,.data⟩,⟨13,.data⟩,⟨8,.chain⟩,⟨8,.guard⟩],some (8,true)⟩) (v := undef) rfl (by kernel_rfl) (by kernel_rfl) (by kernel_rfl) (fun _ _ _ h => h) (Or.inr ⟨by rfl,rfl⟩) (by assumption) ?_
   try simp only [Act.put,q3]
   refine wpAnyH_take (i := 15) (oi := ⟨some 30,.pick (.tmp 23) (.tmp 29) (.const (.bool false)),4,"scope.go:170",#[⟨8,.data⟩,⟨14,.data⟩,⟨3,.guard⟩],some (3,false)⟩) (v := undef) rfl (by kernel_rfl) (by kernel_rfl) (by kernel_rfl) (fun _ _ _ h => h) (Or.inr ⟨by rfl,rfl⟩) (by assumption) ?_
   try simp only [Act.put,q3]
   refine wpAnyH_take (i := 16) (oi := ⟨some 31,.pick (.tmp 18) (.const (.bool true)) (.tmp 30),4,"scope.go:170",#[⟨3,.data⟩,⟨15,.data⟩],none⟩) (v := ?_) rfl (by kernel_rfl) (by kernel_rfl) (by kernel_rfl) (fun _ _ _ h => h) (Or.inl ⟨by rfl, ?_⟩) (by assumption) ?_
   rotate_left 1
   ·intro w hSw
    try dsimp only at hSw
    go_simp
    all_goals with_reducible rfl
   try simp only [Act.put,q3]
   refine wpAnyH_take (i := 17) (oi := ⟨some 4,.assign (.tmp 31),4,"scope.go:170",#[⟨16,.data⟩,⟨14,.chain⟩,⟨0,.phase⟩,⟨1,.phase⟩,⟨2,.phase⟩,⟨3,.phase⟩,⟨4,.phase⟩,⟨5,.phase⟩,⟨6,.phase⟩,⟨7,.phase⟩,⟨8,.phase⟩,⟨9,.phase⟩,⟨10,.phase⟩,⟨11,.phase⟩,⟨12,.phase⟩,⟨13,.phase⟩,⟨14,.phase⟩,⟨15,.phase⟩,⟨16,.phase⟩],none⟩) (v := ?_) rfl (by kernel_rfl) (by kernel_rfl) (by kernel_rfl) (fun _ _ _ h => h) (Or.inl ⟨by rfl, ?_⟩) (by assumption) ?_
   rotate_left 1
   ·intro w hSw
    try dsimp only at hSw
    go_simp
    all_goals with_reducible rfl
   try simp only [Act.put,q3]
   refine wpAnyH_done (by kernel_rfl) ?_ _
   have H9 := Lib.hid h2
   clear h2 hHeld
   go_wp2
   go_ret
   exact ⟨rfl,H9.out.drop.drop⟩
  | false =>
  by_cases hl : t.el.length = 1
  ·rw [decide_eq_true hl]
   have p14 : ((t.el.length : Int) == 1) = true := beq_iff_eq.2 (by omega)
   have l1 : (0 : Int) < t.el.length := by omega
   obtain ⟨ad,cs,eA,hcl0,hKe,hcell0⟩ := Kd.C_get HP.out.2.2.2 zTy 0 (Int.le_refl _) l1
   cases eA
   have hcell : ∀ (j : Nat) (u : Value),cs[j]? = some u → w0.cell? (ad.add (0 * 15 + j)) = some u := hcell0
   have hG := getD_mem t.el zTy 0 (Int.le_refl _) l1
   have hall : t.el.all (finT K.contains n) = finT K.contains n (t.el.getD (0 : Int).toNat zTy) := all_one hl _ _
   generalize t.el.getD (0 : Int).toNat zTy = r at *
   have HE := Lib.hid (And.intro hKe (HD.out.2.2.2 r (List.mem_of_getElem? hG)))
   have HA := Lib.hid hall
   have p142 : (t.el.length : Int) = 1 := by omega
   obtain ⟨B7,e7,B10,e10,B11,e11,B12,e12,B13,e13,B14,e14,rfl, -⟩ := kTy_open (show kTy.K w0 r cs from hKe)
   have HF0 : Hid (∀ W,Below w0.heap.size w0 W → ∀ u,([.int .i64 r.k,.string r.n,.int .i64 r.c.f0,.int .i64 r.c.f1,.int .i64 r.c.f2,.bool r.c.f3,.bool r.c.f4,.slice B7 r.c.f5.length e7,.bool r.e,.string r.fr,.slice B10 r.ns.length e10,.slice B11 r.mo.length e11,.slice B12 r.ps.length e12,.slice B13 r.ad.length e13,.slice B14 r.el.length e14] : List Value)[0]? = some u → W.cell? ad = some u) := Lib.hid fun W hW u hu => by
    have := pw_cell_below hW (hcell 0 u hu)
    rwa [Nat.zero_mul,add_zero1] at this
   have HF : Hid (∀ W,Below w0.heap.size w0 W → ∀ (j : Nat),0 < j → ∀ u,([.int .i64 r.k,.string r.n,.int .i64 r.c.f0,.int .i64 r.c.f1,.int .i64 r.c.f2,.bool r.c.f3,.bool r.c.f4,.slice B7 r.c.f5.length e7,.bool r.e,.string r.fr,.slice B10 r.ns.length e10,.slice B11 r.mo.length e11,.slice B12 r.ps.length e12,.slice B13 r.ad.length e13,.slice B14 r.el.length e14] : List Value)[j]? = some u → W.cell? ⟨ad.block,ad.off + j,none⟩ = some u) := Lib.hid fun W hW j hj u hu => by
    have := pw_cell_below hW (hcell j u hu)
    rwa [Nat.zero_mul,Nat.zero_add,add_field1 ad j hj] at this
   rw [HA.out]
   clear hl hcell hcell0 hcl0 hG hall hKe
   go_enter Tryz.func40,Tryz.ntmps40
   go_wp2_with fail
   refine wp_region_held_drew (S := (fun w' => w'.cell? ⟨g,0,none⟩ = some (.map (some kb)) ∧ w'.cell? ⟨g + 1,2,none⟩ = some (.int .i64 t.c.f0) ∧ w'.cell? ⟨g + 1,3,none⟩ = some (.int .i64 t.c.f1) ∧ w'.cell? ⟨g + 1,4,none⟩ = some (.int .i64 t.c.f2) ∧ w'.cell? ⟨g + 1,5,none⟩ = some (.bool t.c.f3) ∧ w'.cell? ⟨g + 1,6,none⟩ = some (.bool t.c.f4) ∧ w'.cell? ⟨g + 1,7,none⟩ = some (.slice A7 t.c.f5.length c7) ∧ w'.cell? ⟨g + 1,14,none⟩ = some (.slice (some ad) t.el.length c14) ∧ w'.cell? ad = some (.int .i64 r.k) ∧ w'.cell? ⟨ad.block,ad.off + 1,none⟩ = some (.string r.n) ∧ w'.cell? ⟨ad.block,ad.off + 2,none⟩ = some (.int .i64 r.c.f0) ∧ w'.cell? ⟨ad.block,ad.off + 3,none⟩ = some (.int .i64 r.c.f1) ∧ w'.cell? ⟨ad.block,ad.off + 4,none⟩ = some (.int .i64 r.c.f2) ∧ w'.cell? ⟨ad.block,ad.off + 5,none⟩ = some (.bool r.c.f3) ∧ w'.cell? ⟨ad.block,ad.off + 6,none⟩ = some (.bool r.c.f4) ∧ w'.cell? ⟨ad.block,ad.off + 7,none⟩ = some (.slice B7 r.c.f5.length e7) ∧ w'.cell? ⟨ad.block,ad.off + 8,none⟩ = some (.bool r.e) ∧ w'.cell? ⟨ad.block,ad.off + 9,none⟩ = some (.string r.fr) ∧ w'.cell? ⟨ad.block,ad.off + 10,none⟩ = some (.slice B10 r.ns.length e10) ∧ w'.cell? ⟨ad.block,ad.off + 11,none⟩ = some (.slice B11 r.mo.length e11) ∧ w'.cell? ⟨ad.block,ad.off + 12,none⟩ = some (.slice B12 r.ps.length e12) ∧ w'.cell? ⟨ad.block,ad.off + 13,none⟩ = some (.slice B13 r.ad.length e13) ∧ w'.cell? ⟨ad.block,ad.off + 14,none⟩ = some (.slice B14 r.el.length e14))) (by kernel_rfl) ?_ (fun hHeld => ?_)
   ·exact ⟨(H.out.drew).two.cell 0 rfl,(H.out.drew).cell 2 rfl,(H.out.drew).cell 3 rfl,(H.out.drew).cell 4 rfl,(H.out.drew).cell 5 rfl,(H.out.drew).cell 6 rfl,(H.out.drew).cell 7 rfl,(H.out.drew).cell 14 rfl,HF0.out _ (H.out.drew).below _ rfl,HF.out _ (H.out.drew).below 1 (by decide) _ rfl,HF.out _ (H.out.drew).below 2 (by decide) _ rfl,HF.out _ (H.out.drew).below 3 (by decide) _ rfl,HF.out _ (H.out.drew).below 4 (by decide) _ rfl,HF.out _ (H.out.drew).below 5 (by decide) _ rfl,HF.out _ (H.out.drew).below 6 (by decide) _ rfl,HF.out _ (H.out.drew).below 7 (by decide) _ rfl,HF.out _ (H.out.drew).below 8 (by decide) _ rfl,HF.out _ (H.out.drew).below 9 (by decide) _ rfl,HF.out _ (H.out.drew).below 10 (by decide) _ rfl,HF.out _ (H.out.drew).below 11 (by decide) _ rfl,HF.out _ (H.out.drew).below 12 (by decide) _ rfl,HF.out _ (H.out.drew).below 13 (by decide) _ rfl,HF.out _ (H.out.drew).below 14 (by decide) _ rfl⟩
   refine wpAnyH_take (i := 0) (oi := ⟨some 15,.fieldAddr 38 (.tmp 3) 2,0,"scope.go:170",#[],none⟩) (v := ?_) rfl (by kernel_rfl) (by kernel_rfl) (by kernel_rfl) (fun _ _ _ h => h) (Or.inl ⟨by rfl, ?_⟩) (by assumption) ?_
   rotate_left 1
   ·intro w hSw
    try dsimp only at hSw
    go_simp
    all_goals with_reducible rfl
   try simp only [Act.put,q3]
   refine wpAnyH_take (i := 1) (oi := ⟨some 16,.load 33 (.tmp 15),33,"scope.go:170",#[⟨0,.data⟩],none⟩) (v := ?_) rfl (by kernel_rfl) (by kernel_rfl) (by kernel_rfl) (fun _ _ _ h => h) (Or.inl ⟨by rfl, ?_⟩) (by assumption) ?_
   rotate_left 1
   ·intro w hSw
    try dsimp only at hSw
    go_simp
    all_goals with_reducible rfl
   try simp only [Act.put,q3]
   refine wpAnyH_ready (rs := [2]) (by kernel_rfl) (by simp) ?_
   refine AllReadyH.cons (o := ⟨some 17,.call { callee := .value (.func 63),args := #[.tmp 16],argTypes := #[33] },4,"scope.go:170",#[⟨1,.data⟩],none⟩) rfl (fun K hK => ?_) AllReadyH.nil
   go_simp
   refine (empty_calls t.c A7 c7 H.out.drew).mono ?_
   rintro e w2 ⟨rfl,h2⟩
   rw [q1]
   refine hK.out _ _ ?_ (fun hHeld => ?_)
   ·exact ⟨(h2).two.cell 0 rfl,(h2).cell 2 rfl,(h2).cell 3 rfl,(h2).cell 4 rfl,(h2).cell 5 rfl,(h2).cell 6 rfl,(h2).cell 7 rfl,(h2).cell 14 rfl,HF0.out _ (h2).below _ rfl,HF.out _ (h2).below 1 (by decide) _ rfl,HF.out _ (h2).below 2 (by decide) _ rfl,HF.out _ (h2).below 3 (by decide) _ rfl,HF.out _ (h2).below 4 (by decide) _ rfl,HF.out _ (h2).below 5 (by decide) _ rfl,HF.out _ (h2).below 6 (by decide) _ rfl,HF.out _ (h2).below 7 (by decide) _ rfl,HF.out _ (h2).below 8 (by decide) _ rfl,HF.out _ (h2).below 9 (by decide) _ rfl,HF.out _ (h2).below 10 (by decide) _ rfl,HF.out _ (h2).below 11 (by decide) _ rfl,HF.out _ (h2).below 12 (by decide) _ rfl,HF.out _ (h2).below 13 (by decide) _ rfl,HF.out _ (h2).below 14 (by decide) _ rfl⟩
   clear hK K
   try simp only [Act.put,q3]
   refine wpAnyH_take (i := 3) (oi := ⟨some 18,.move (.tmp 17),4,"scope.go:170",#[⟨2,.data⟩,⟨2,.chain⟩],none⟩) (v := ?_) rfl (by kernel_rfl) (by kernel_rfl) (by kernel_rfl) (fun _ _ _ h => h) (Or.inl ⟨by rfl, ?_⟩) (by assumption) ?_
   rotate_left 1
   ·intro w hSw
    try dsimp only at hSw
    go_simp
    all_goals with_reducible rfl
   try simp only [Act.put,q3]
   refine wpAnyH_take (i := 4) (oi := ⟨some 19,.fieldAddr 38 (.tmp 3) 9,0,"scope.go:170",#[⟨3,.guard⟩],some (3,false)⟩) (v := ?_) rfl (by kernel_rfl) (by kernel_rfl) (by kernel_rfl) (fun _ _ _ h => h) (Or.inl ⟨by rfl, ?_⟩) (by assumption) ?_
   rotate_left 1
   ·intro w hSw
    try dsimp only at hSw
    go_simp
    all_goals with_reducible rfl
   try simp only [Act.put,q3]
   refine wpAnyH_take (i := 5) (oi := ⟨some 20,.load 36 (.tmp 19),36,"scope.go:170",#[⟨4,.data⟩,⟨3,.guard⟩],some (3,false)⟩) (v := ?_) rfl (by kernel_rfl) (by kernel_rfl) (by kernel_rfl) (fun _ _ _ h => h) (Or.inl ⟨by rfl, ?_⟩) (by assumption) ?_
   rotate_left 1
   ·intro w hSw
    try dsimp only at hSw
    go_simp
    all_goals with_reducible rfl
   try simp only [Act.put,q3]
   refine wpAnyH_take (i := 6) (oi := ⟨some 21,.call { callee := .builtin .len,args := #[.tmp 20],argTypes := #[36] },3,"scope.go:170",#[⟨5,.data⟩,⟨3,.guard⟩],some (3,false)⟩) (v := ?_) rfl (by kernel_rfl) (by kernel_rfl) (by kernel_rfl) (fun _ _ _ h => h) (Or.inl ⟨by rfl, ?_⟩) (by assumption) ?_
   rotate_left 1
   ·intro w hSw
    try dsimp only at hSw
    go_simp
    all_goals with_reducible rfl
   try simp only [Act.put,q3]
   refine wpAnyH_take (i := 7) (oi := ⟨some 22,.binOp .eql 3 (.tmp 21) (.const (.int .i64 1)) 3,4,"scope.go:170",#[⟨6,.data⟩,⟨3,.guard⟩],some (3,false)⟩) (v := ?_) rfl (by kernel_rfl) (by kernel_rfl) (by kernel_rfl) (fun _ _ _ h => h) (Or.inl ⟨by rfl, ?_⟩) (by assumption) ?_
   rotate_left 1
   ·intro w hSw
    try dsimp only at hSw
    go_simp
    all_goals with_reducible rfl
   try simp only [Act.put,q3]
   refine wpAnyH_take (i := 8) (oi := ⟨some 23,.move (.tmp 22),4,"scope.go:170",#[⟨7,.data⟩,⟨3,.chain⟩,⟨3,.guard⟩],some (3,false)⟩) (v := ?_) rfl (by kernel_rfl) (by kernel_rfl) (by kernel_rfl) (fun _ _ _ h => h) (Or.inl ⟨by rfl, ?_⟩) (by assumption) ?_
   rotate_left 1
   ·intro w hSw
    try dsimp only at hSw
    go_simp
    all_goals with_reducible rfl
   try simp only [Act.put,q3]
   refine wpAnyH_take (i := 9) (oi := ⟨some 24,.load 57 (.tmp 2),57,"scope.go:170",#[⟨8,.guard⟩],some (8,true)⟩) (v := ?_) rfl (by kernel_rfl) (by kernel_rfl) (by kernel_rfl) (fun _ _ _ h => h) (Or.inl ⟨by rfl, ?_⟩) (by assumption) ?_
   rotate_left 1
   ·intro w hSw
    try dsimp only at hSw
    go_simp
    all_goals with_reducible rfl
   try simp only [Act.put,q3]
   refine wpAnyH_take (i := 10) (oi := ⟨some 25,.fieldAddr 38 (.tmp 3) 9,0,"scope.go:170",#[⟨8,.guard⟩],some (8,true)⟩) (v := ?_) rfl (by kernel_rfl) (by kernel_rfl) (by kernel_rfl) (fun _ _ _ h => h) (Or.inl ⟨by rfl, ?_⟩) (by assumption) ?_
   rotate_left 1
   ·intro w hSw
    try dsimp only at hSw
    go_simp
    all_goals with_reducible rfl
   try simp only [Act.put,q3]
   refine wpAnyH_take (i := 11) (oi := ⟨some 26,.load 36 (.tmp 25),36,"scope.go:170",#[⟨10,.data⟩,⟨8,.guard⟩],some (8,true)⟩) (v := ?_) rfl (by kernel_rfl) (by kernel_rfl) (by kernel_rfl) (fun _ _ _ h => h) (Or.inl ⟨by rfl, ?_⟩) (by assumption) ?_
   rotate_left 1
   ·intro w hSw
    try dsimp only at hSw
    go_simp
    all_goals with_reducible rfl
   try simp only [Act.put,q3]
   refine wpAnyH_take (i := 12) (oi := ⟨some 27,.indexAddr 36 (.tmp 26) (.const (.int .i64 0)),0,"scope.go:170",#[⟨11,.data⟩,⟨8,.guard⟩],some (8,true)⟩) (v := ?_) rfl (by kernel_rfl) (by kernel_rfl) (by kernel_rfl) (fun _ _ _ h => h) (Or.inl ⟨by rfl, ?_⟩) (by assumption) ?_
   rotate_left 1
   ·intro w hSw
    try dsimp only at hSw
    go_simp
    all_goals with_reducible rfl
   try simp only [Act.put,q3]
   refine wpAnyH_take (i := 13) (oi := ⟨some 28,.load 38 (.tmp 27),38,"scope.go:170",#[⟨12,.data⟩,⟨8,.guard⟩],some (8,true)⟩) (v := ?_) rfl (by kernel_rfl) (by kernel_rfl) (by kernel_rfl) (fun _ _ _ h => h) (Or.inl ⟨by rfl, ?_⟩) (by assumption) ?_
   rotate_left 1
   ·intro w hSw
    try dsimp only at hSw
    go_simp
    all_goals with_reducible rfl
   try simp only [Act.put,q3]
   refine wpAnyH_ready (rs := [14]) (by kernel_rfl) (by simp) ?_
   refine AllReadyH.cons (o := ⟨some 29,.call { callee := .value (.func 40),args := #[.tmp 24,.tmp 28],argTypes := #[57,38] },4,"scope.go:170",#[⟨9,.data⟩,⟨13,.data⟩,⟨8,.chain⟩,⟨8,.guard⟩],some (8,true)⟩) rfl (fun K hK => ?_) AllReadyH.nil
   go_simp
   refine (HI.out _ _ r _ h2.three HE.out.1 HE.out.2).mono ?_
   rintro e w3 ⟨rfl,h3⟩
   refine hK.out _ _ ?_ (fun hHeld => ?_)
   ·exact ⟨(h3.three.three).two.cell 0 rfl,(h3.three.three).cell 2 rfl,(h3.three.three).cell 3 rfl,(h3.three.three).cell 4 rfl,(h3.three.three).cell 5 rfl,(h3.three.three).cell 6 rfl,(h3.three.three).cell 7 rfl,(h3.three.three).cell 14 rfl,HF0.out _ (h3).below _ rfl,HF.out _ (h3).below 1 (by decide) _ rfl,HF.out _ (h3).below 2 (by decide) _ rfl,HF.out _ (h3).below 3 (by decide) _ rfl,HF.out _ (h3).below 4 (by decide) _ rfl,HF.out _ (h3).below 5 (by decide) _ rfl,HF.out _ (h3).below 6 (by decide) _ rfl,HF.out _ (h3).below 7 (by decide) _ rfl,HF.out _ (h3).below 8 (by decide) _ rfl,HF.out _ (h3).below 9 (by decide) _ rfl,HF.out _ (h3).below 10 (by decide) _ rfl,HF.out _ (h3).below 11 (by decide) _ rfl,HF.out _ (h3).below 12 (by decide) _ rfl,HF.out _ (h3).below 13 (by decide) _ rfl,HF.out _ (h3).below 14 (by decide) _ rfl⟩
   clear hK K
   try simp only [Act.put,q3]
   refine wpAnyH_take (i := 15) (oi := ⟨some 30,.pick (.tmp 23) (.tmp 29) (.const (.bool false)),4,"scope.go:170",#[⟨8,.data⟩,⟨14,.data⟩,⟨3,.guard⟩],some (3,false)⟩) (v := ?_) rfl (by kernel_rfl) (by kernel_rfl) (by kernel_rfl) (fun _ _ _ h => h) (Or.inl ⟨by rfl, ?_⟩) (by assumption) ?_
   rotate_left 1
   ·intro w hSw
    try dsimp only at hSw
    go_simp
    all_goals with_reducible rfl
   try simp only [Act.put,q3]
   refine wpAnyH_take (i := 16) (oi := ⟨some 31,.pick (.tmp 18) (.const (.bool true)) (.tmp 30),4,"scope.go:170",#[⟨3,.data⟩,⟨15,.data⟩],none⟩) (v := ?_) rfl (by kernel_rfl) (by kernel_rfl) (by kernel_rfl) (fun _ _ _ h => h) (Or.inl ⟨by rfl, ?_⟩) (by assumption) ?_
   rotate_left 1
   ·intro w hSw
    try dsimp only at hSw
    go_simp
    all_goals with_reducible rfl
   try simp only [Act.put,q3]
   refine wpAnyH_take (i := 17) (oi := ⟨some 4,.assign (.tmp 31),4,"scope.go:170",#[⟨16,.data⟩,⟨14,.chain⟩,⟨0,.phase⟩,⟨1,.phase⟩,⟨2,.phase⟩,⟨3,.phase⟩,⟨4,.phase⟩,⟨5,.phase⟩,⟨6,.phase⟩,⟨7,.phase⟩,⟨8,.phase⟩,⟨9,.phase⟩,⟨10,.phase⟩,⟨11,.phase⟩,⟨12,.phase⟩,⟨13,.phase⟩,⟨14,.phase⟩,⟨15,.phase⟩,⟨16,.phase⟩],none⟩) (v := ?_) rfl (by kernel_rfl) (by kernel_rfl) (by kernel_rfl) (fun _ _ _ h => h) (Or.inl ⟨by rfl, ?_⟩) (by assumption) ?_
   rotate_left 1
   ·intro w hSw
    try dsimp only at hSw
    go_simp
    all_goals with_reducible rfl
   try simp only [Act.put,q3]
   refine wpAnyH_done (by kernel_rfl) ?_ _
   have H9 := Lib.hid h3.three.three.drop.drop
   clear h2 h3 hHeld
   go_wp2
   go_ret
   exact ⟨rfl,H9.out⟩
  ·rw [decide_eq_false hl]
   have p14 : ((t.el.length : Int) == 1) = false := beq_eq_false_iff_ne.2 (by omega)
   clear hl
   go_enter Tryz.func40,Tryz.ntmps40
   go_wp2_with fail
   refine wp_region_held_drew (S := (fun w' => w'.cell? ⟨g,0,none⟩ = some (.map (some kb)) ∧ w'.cell? ⟨g + 1,2,none⟩ = some (.int .i64 t.c.f0) ∧ w'.cell? ⟨g + 1,3,none⟩ = some (.int .i64 t.c.f1) ∧ w'.cell? ⟨g + 1,4,none⟩ = some (.int .i64 t.c.f2) ∧ w'.cell? ⟨g + 1,5,none⟩ = some (.bool t.c.f3) ∧ w'.cell? ⟨g + 1,6,none⟩ = some (.bool t.c.f4) ∧ w'.cell? ⟨g + 1,7,none⟩ = some (.slice A7 t.c.f5.length c7) ∧ w'.cell? ⟨g + 1,14,none⟩ = some (.slice A14 t.el.length c14))) (by kernel_rfl) ?_ (fun hHeld => ?_)
   ·exact ⟨(H.out.drew).two.cell 0 rfl,(H.out.drew).cell 2 rfl,(H.out.drew).cell 3 rfl,(H.out.drew).cell 4 rfl,(H.out.drew).cell 5 rfl,(H.out.drew).cell 6 rfl,(H.out.drew).cell 7 rfl,(H.out.drew).cell 14 rfl⟩
   refine wpAnyH_take (i := 0) (oi := ⟨some 15,.fieldAddr 38 (.tmp 3) 2,0,"scope.go:170",#[],none⟩) (v := ?_) rfl (by kernel_rfl) (by kernel_rfl) (by kernel_rfl) (fun _ _ _ h => h) (Or.inl ⟨by rfl, ?_⟩) (by assumption) ?_
   rotate_left 1
   ·intro w hSw
    try dsimp only at hSw
    go_simp
    all_goals with_reducible rfl
   try simp only [Act.put,q3]
   refine wpAnyH_take (i := 1) (oi := ⟨some 16,.load 33 (.tmp 15),33,"scope.go:170",#[⟨0,.data⟩],none⟩) (v := ?_) rfl (by kernel_rfl) (by kernel_rfl) (by kernel_rfl) (fun _ _ _ h => h) (Or.inl ⟨by rfl, ?_⟩) (by assumption) ?_
   rotate_left 1
   ·intro w hSw
    try dsimp only at hSw
    go_simp
    all_goals with_reducible rfl
   try simp only [Act.put,q3]
   refine wpAnyH_ready (rs := [2]) (by kernel_rfl) (by simp) ?_
   refine AllReadyH.cons (o := ⟨some 17,.call { callee := .value (.func 63),args := #[.tmp 16],argTypes := #[33] },4,"scope.go:170",#[⟨1,.data⟩],none⟩) rfl (fun K hK => ?_) AllReadyH.nil
   go_simp
   refine (empty_calls t.c A7 c7 H.out.drew).mono ?_
   rintro e w2 ⟨rfl,h2⟩
   rw [q1]
   refine hK.out _ _ ?_ (fun hHeld => ?_)
   ·exact ⟨(h2).two.cell 0 rfl,(h2).cell 2 rfl,(h2).cell 3 rfl,(h2).cell 4 rfl,(h2).cell 5 rfl,(h2).cell 6 rfl,(h2).cell 7 rfl,(h2).cell 14 rfl⟩
   clear hK K
   try simp only [Act.put,q3]
   refine wpAnyH_take (i := 3) (oi := ⟨some 18,.move (.tmp 17),4,"scope.go:170",#[⟨2,.data⟩,⟨2,.chain⟩],none⟩) (v := ?_) rfl (by kernel_rfl) (by kernel_rfl) (by kernel_rfl) (fun _ _ _ h => h) (Or.inl ⟨by rfl, ?_⟩) (by assumption) ?_
   rotate_left 1
   ·intro w hSw
    try dsimp only at hSw
    go_simp
    all_goals with_reducible rfl
   try simp only [Act.put,q3]
   refine wpAnyH_take (i := 4) (oi := ⟨some 19,.fieldAddr 38 (.tmp 3) 9,0,"scope.go:170",#[⟨3,.guard⟩],some (3,false)⟩) (v := ?_) rfl (by kernel_rfl) (by kernel_rfl) (by kernel_rfl) (fun _ _ _ h => h) (Or.inl ⟨by rfl, ?_⟩) (by assumption) ?_
   rotate_left 1
   ·intro w hSw
    try dsimp only at hSw
    go_simp
    all_goals with_reducible rfl
   try simp only [Act.put,q3]
   refine wpAnyH_take (i := 5) (oi := ⟨some 20,.load 36 (.tmp 19),36,"scope.go:170",#[⟨4,.data⟩,⟨3,.guard⟩],some (3,false)⟩) (v := ?_) rfl (by kernel_rfl) (by kernel_rfl) (by kernel_rfl) (fun _ _ _ h => h) (Or.inl ⟨by rfl, ?_⟩) (by assumption) ?_
   rotate_left 1
   ·intro w hSw
    try dsimp only at hSw
    go_simp
    all_goals with_reducible rfl
   try simp only [Act.put,q3]
   refine wpAnyH_take (i := 6) (oi := ⟨some 21,.call { callee := .builtin .len,args := #[.tmp 20],argTypes := #[36] },3,"scope.go:170",#[⟨5,.data⟩,⟨3,.guard⟩],some (3,false)⟩) (v := ?_) rfl (by kernel_rfl) (by kernel_rfl) (by kernel_rfl) (fun _ _ _ h => h) (Or.inl ⟨by rfl, ?_⟩) (by assumption) ?_
   rotate_left 1
   ·intro w hSw
    try dsimp only at hSw
    go_simp
    all_goals with_reducible rfl
   try simp only [Act.put,q3]
   refine wpAnyH_take (i := 7) (oi := ⟨some 22,.binOp .eql 3 (.tmp 21) (.const (.int .i64 1)) 3,4,"scope.go:170",#[⟨6,.data⟩,⟨3,.guard⟩],some (3,false)⟩) (v := ?_) rfl (by kernel_rfl) (by kernel_rfl) (by kernel_rfl) (fun _ _ _ h => h) (Or.inl ⟨by rfl, ?_⟩) (by assumption) ?_
   rotate_left 1
   ·intro w hSw
    try dsimp only at hSw
    go_simp
    all_goals with_reducible rfl
   try simp only [Act.put,q3]
   refine wpAnyH_take (i := 8) (oi := ⟨some 23,.move (.tmp 22),4,"scope.go:170",#[⟨7,.data⟩,⟨3,.chain⟩,⟨3,.guard⟩],some (3,false)⟩) (v := ?_) rfl (by kernel_rfl) (by kernel_rfl) (by kernel_rfl) (fun _ _ _ h => h) (Or.inl ⟨by rfl, ?_⟩) (by assumption) ?_
   rotate_left 1
   ·intro w hSw
    try dsimp only at hSw
    go_simp
    all_goals with_reducible rfl
   try simp only [Act.put,q3]
   refine wpAnyH_take (i := 9) (oi := ⟨some 24,.load 57 (.tmp 2),57,"scope.go:170",#[⟨8,.guard⟩],some (8,true)⟩) (v := undef) rfl (by kernel_rfl) (by kernel_rfl) (by kernel_rfl) (fun _ _ _ h => h) (Or.inr ⟨by rfl,rfl⟩) (by assumption) ?_
   try simp only [Act.put,q3]
   refine wpAnyH_take (i := 10) (oi := ⟨some 25,.fieldAddr 38 (.tmp 3) 9,0,"scope.go:170",#[⟨8,.guard⟩],some (8,true)⟩) (v := undef) rfl (by kernel_rfl) (by kernel_rfl) (by kernel_rfl) (fun _ _ _ h => h) (Or.inr ⟨by rfl,rfl⟩) (by assumption) ?_
   try simp only [Act.put,q3]
   refine wpAnyH_take (i := 11) (oi := ⟨some 26,.load 36 (.tmp 25),36,"scope.go:170",#[⟨10,.data⟩,⟨8,.guard⟩],some (8,true)⟩) (v := undef) rfl (by kernel_rfl) (by kernel_rfl) (by kernel_rfl) (fun _ _ _ h => h) (Or.inr ⟨by rfl,rfl⟩) (by assumption) ?_
   try simp only [Act.put,q3]
   refine wpAnyH_take (i := 12) (oi := ⟨some 27,.indexAddr 36 (.tmp 26) (.const (.int .i64 0)),0,"scope.go:170",#[⟨11,.data⟩,⟨8,.guard⟩],some (8,true)⟩) (v := undef) rfl (by kernel_rfl) (by kernel_rfl) (by kernel_rfl) (fun _ _ _ h => h) (Or.inr ⟨by rfl,rfl⟩) (by assumption) ?_
   try simp only [Act.put,q3]
   refine wpAnyH_take (i := 13) (oi := ⟨some 28,.load 38 (.tmp 27),38,"scope.go:170",#[⟨12,.data⟩,⟨8,.guard⟩],some (8,true)⟩) (v := undef) rfl (by kernel_rfl) (by kernel_rfl) (by kernel_rfl) (fun _ _ _ h => h) (Or.inr ⟨by rfl,rfl⟩) (by assumption) ?_
   try simp only [Act.put,q3]
   refine wpAnyH_take (i := 14) (oi := ⟨some 29,.call { callee := .value (.func 40),args := #[.tmp 24,.tmp 28],argTypes := #[57,38] },4,"scope.go:170",#[⟨9,.data⟩,⟨13,.data⟩,⟨8,.chain⟩,⟨8,.guard⟩],some (8,true)⟩) (v := undef) rfl (by kernel_rfl) (by kernel_rfl) (by kernel_rfl) (fun _ _ _ h => h) (Or.inr ⟨by rfl,rfl⟩) (by assumption) ?_
   try simp only [Act.put,q3]
   refine wpAnyH_take (i := 15) (oi := ⟨some 30,.pick (.tmp 23) (.tmp 29) (.const (.bool false)),4,"scope.go:170",#[⟨8,.data⟩,⟨14,.data⟩,⟨3,.guard⟩],some (3,false)⟩) (v := ?_) rfl (by kernel_rfl) (by kernel_rfl) (by kernel_rfl) (fun _ _ _ h => h) (Or.inl ⟨by rfl, ?_⟩) (by assumption) ?_
   rotate_left 1
   ·intro w hSw
    try dsimp only at hSw
    go_simp
    all_goals with_reducible rfl
   try simp only [Act.put,q3]
   refine wpAnyH_take (i := 16) (oi := ⟨some 31,.pick (.tmp 18) (.const (.bool true)) (.tmp 30),4,"scope.go:170",#[⟨3,.data⟩,⟨15,.data⟩],none⟩) (v := ?_) rfl (by kernel_rfl) (by kernel_rfl) (by kernel_rfl) (fun _ _ _ h => h) (Or.inl ⟨by rfl, ?_⟩) (by assumption) ?_
   rotate_left 1
   ·intro w hSw
    try dsimp only at hSw
    go_simp
    all_goals with_reducible rfl
   try simp only [Act.put,q3]
   refine wpAnyH_take (i := 17) (oi := ⟨some 4,.assign (.tmp 31),4,"scope.go:170",#[⟨16,.data⟩,⟨14,.chain⟩,⟨0,.phase⟩,⟨1,.phase⟩,⟨2,.phase⟩,⟨3,.phase⟩,⟨4,.phase⟩,⟨5,.phase⟩,⟨6,.phase⟩,⟨7,.phase⟩,⟨8,.phase⟩,⟨9,.phase⟩,⟨10,.phase⟩,⟨11,.phase⟩,⟨12,.phase⟩,⟨13,.phase⟩,⟨14,.phase⟩,⟨15,.phase⟩,⟨16,.phase⟩],none⟩) (v := ?_) rfl (by kernel_rfl) (by kernel_rfl) (by kernel_rfl) (fun _ _ _ h => h) (Or.inl ⟨by rfl, ?_⟩) (by assumption) ?_
   rotate_left 1
   ·intro w hSw
    try dsimp only at hSw
    go_simp
    all_goals with_reducible rfl
   try simp only [Act.put,q3]
   refine wpAnyH_done (by kernel_rfl) ?_ _
   have H9 := Lib.hid h2
   clear h2 hHeld
   go_wp2
   go_ret
   exact ⟨rfl,H9.out.drop.drop⟩
 have n9 := hk
 rw [if_neg hk]
 clear hk
 by_cases hk : t.k = 8
 ·have p11 : (t.k == 11) = false := beq_eq_false_iff_ne.2 (by omega)
  have p9 : (t.k == 9) = false := beq_eq_false_iff_ne.2 (by omega)
  have p8 : (t.k == 8) = true := beq_iff_eq.2 hk
  have p10 : (t.k == 10) = false := beq_eq_false_iff_ne.2 (by omega)
  have d7 := H.out.cell 12 rfl
  rw [if_pos hk]
  clear hk n11 n9
  go_enter Tryz.func40,Tryz.ntmps40
  go_wp2_with fail
  refine (contains_pts _ _ eg1 _ A12 c12 t.ps HP.out.2.1 H.out.back3 HF1.out).mono ?_
  rintro e w2 ⟨rfl,h2⟩
  have H2 := Lib.hid h2
  clear h2
  go_wp2
  go_ret
  exact ⟨rfl,H2.out.drop.drop2⟩
 have n8 := hk
 rw [if_neg hk]
 clear hk
 by_cases hk : t.k = 10
 ·have p11 : (t.k == 11) = false := beq_eq_false_iff_ne.2 (by omega)
  have p9 : (t.k == 9) = false := beq_eq_false_iff_ne.2 (by omega)
  have p8 : (t.k == 8) = false := beq_eq_false_iff_ne.2 (by omega)
  have p10 : (t.k == 10) = true := beq_iff_eq.2 hk
  have d7 := H.out.cell 12 rfl
  rw [if_pos hk]
  clear hk n11 n9 n8
  go_enter Tryz.func40,Tryz.ntmps40
  go_wp2_with fail
  refine (contains_pts _ _ eg2 _ A12 c12 t.ps HP.out.2.1 H.out.back3 HF2.out).mono ?_
  rintro e w2 ⟨rfl,h2⟩
  have H2 := Lib.hid h2
  clear h2
  go_wp2
  go_ret
  exact ⟨rfl,H2.out.drop.drop2⟩
 have n10 := hk
 have p11 : (t.k == 11) = false := beq_eq_false_iff_ne.2 n11
 have p9 : (t.k == 9) = false := beq_eq_false_iff_ne.2 n9
 have p8 : (t.k == 8) = false := beq_eq_false_iff_ne.2 n8
 have p10 : (t.k == 10) = false := beq_eq_false_iff_ne.2 n10
 rw [if_neg hk]
 clear hk
 go_enter Tryz.func40,Tryz.ntmps40
 go_wp2
 go_ret
 exact ⟨rfl,H.out.drop.drop⟩
theorem fin_at (kb : Nat) (K : List (List UInt8)) (n : Nat) : FinAt w0 kb K n := by
 induction n with
 | zero => intro W Q t cs _ _ hd; exact hd.elim
 | succ n ih => exact fin_step kb K n ih
end Go.Proofs.YtbjddomocggjmaaGreat.Sc
