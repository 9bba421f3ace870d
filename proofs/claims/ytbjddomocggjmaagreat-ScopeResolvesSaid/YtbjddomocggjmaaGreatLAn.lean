/- Resolve of scope: walked. -/
import Derived.Deep.Cut
import Derived.Test.YtbjddomocggjmaaGreatLA
import Derived.Test.YtbjddomocggjmaaGreatLS
import Derived.Test.YtbjddomocggjmaaGreatLY
import Derived.Test.YtbjddomocggjmaaGreatLAl
section
namespace Go.Proofs.YtbjddomocggjmaaGreat.Sc
open Go.RowKit Go.ChangeShapes Go.WideShapes Go.Proofs.YtbjddomocggjmaaGreat.Sep
open Go.Proofs.YtbjddomocggjmaaGreatW.PrintWords Go.Proofs.YtbjddomocggjmaaGreatW.PrintLast
variable {B : Nat} {w0 w : World} {R : HP}
set_option maxHeartbeats 16000000 in
set_option maxRecDepth 100000 in
theorem typ_other (b : Nat) (ob : Option Nat) (fm : List (List UInt8 × ByteArray)) (n : Nat) (ih : TypAt w0 b ob fm n) (t : Ty) (cs : List Value) (h : S w0 w (MapV b (strM fm) • R)) (hK : kTy.K w0 t cs) (ho : oTy t) (hs : shapedB (n + 1) t = true) (hk : t.k ≠ 11) :
 Calls Tryz.prog 16 #[.agg #[.map (some b),.map ob],.agg cs.toArray] w fun e w' => ∃ x : V15,e = .returned (.tuple #[.agg #[.int .i64 x.k,.string x.n,.int .i64 x.c0,.int .i64 x.c1,.int .i64 x.c2,.bool x.c3,.bool x.c4,.slice x.A7 x.n7 x.p7,.bool x.e,.string x.fr,.slice x.A10 x.n10 x.p10,.slice x.A11 x.n11 x.p11,.slice x.A12 x.n12 x.p12,.slice x.A13 x.n13 x.p13,.slice x.A14 x.n14 x.p14],.bool (typP (lookS fm) (n + 1) t).isSome]) ∧
  S w0 w' (Vw w0 w0.heap.size (fun W => ∀ r,typP (lookS fm) (n + 1) t = some r → kTy.K W r [.int .i64 x.k,.string x.n,.int .i64 x.c0,.int .i64 x.c1,.int .i64 x.c2,.bool x.c3,.bool x.c4,.slice x.A7 x.n7 x.p7,.bool x.e,.string x.fr,.slice x.A10 x.n10 x.p10,.slice x.A11 x.n11 x.p11,.slice x.A12 x.n12 x.p12,.slice x.A13 x.n13 x.p13,.slice x.A14 x.n14 x.p14]) • (MapV b (strM fm) • R)) := by
 have hh := shaped_has (b := shapedB n) hs
 obtain ⟨A7,c7,A10,c10,A11,c11,A12,c12,A13,c13,A14,c14,rfl,l7,g7,l10,g10,l11,g11,l12,g12,l13,g13,l14,g14⟩ := kTy_open hK
 have HC := Lib.hid (And.intro g7 (And.intro g10 (And.intro g11 (And.intro g12 (And.intro g13 g14)))))
 have HL := Lib.hid (And.intro l7 (And.intro l10 (And.intro l11 (And.intro l12 (And.intro l13 l14)))))
 have HH := Lib.hid (And.intro hh (And.intro ho ih))
 have HO := Lib.hid (oTy_parts ho)
 have hl1 : t.ps.length ≤ 9223372036854775807 := by have := hh.ps.1; omega
 have hl2 : t.ad.length ≤ 9223372036854775807 := by have := hh.ad.1; omega
 have hl3 : t.el.length ≤ 9223372036854775807 := by have := hh.el.1; omega
 have HT : Hid (typP (lookS fm) (n + 1) t = if onceB (ptNames t.ps ++ ptNames t.ad) = true ∧ onceB (t.ns ++ t.mo) = true then elsP (typP (lookS fm) n) t else none) := Lib.hid (if_neg hk)
 show Calls Tryz.prog 16 #[.agg #[.map (some b),.map ob],.agg #[.int .i64 t.k,.string t.n,.int .i64 t.c.f0,.int .i64 t.c.f1,.int .i64 t.c.f2,.bool t.c.f3,.bool t.c.f4,.slice A7 t.c.f5.length c7,.bool t.e,.string t.fr,.slice A10 t.ns.length c10,.slice A11 t.mo.length c11,.slice A12 t.ps.length c12,.slice A13 t.ad.length c13,.slice A14 t.el.length c14]] w _
 have p1 : (t.k == 11) = false := beq_eq_false_iff_ne.2 hk
 have p2 : decide (t.k = 11) = false := decide_eq_false hk
 generalize hg : w.heap.size = g
 have H := Lib.hid (alloc_at (n := g + 2) (alloc_at (n := g + 1) (alloc_at (n := g) h (.cells #[.map (some b),.map ob] 59) hg.symm) (.cells #[.int .i64 t.k,.string t.n,.int .i64 t.c.f0,.int .i64 t.c.f1,.int .i64 t.c.f2,.bool t.c.f3,.bool t.c.f4,.slice A7 t.c.f5.length c7,.bool t.e,.string t.fr,.slice A10 t.ns.length c10,.slice A11 t.mo.length c11,.slice A12 t.ps.length c12,.slice A13 t.ad.length c13,.slice A14 t.el.length c14] 38) (by simp [hg])) (.cells #[.int .i64 0,.string ⟨#[]⟩,.int .i64 0,.int .i64 0,.int .i64 0,.bool false,.bool false,.slice none 0 0,.bool false,.string ⟨#[]⟩,.slice none 0 0,.slice none 0 0,.slice none 0 0,.slice none 0 0,.slice none 0 0] 38) (by simp [hg]))
 have d0 := H.out.two.cell 0 rfl
 clear hk h ho hh hs ih g7 g10 g11 g12 g13 g14 l7 l10 l11 l12 l13 l14 hK
 go_enter Tryz.func16,Tryz.ntmps16
 go_wp2_with fail
 refine start_ (n := 15) (ds := [10,12,14]) (S := (fun w' => w'.cell? ⟨g + 1,2,none⟩ = some (.int .i64 t.c.f0) ∧ w'.cell? ⟨g + 1,3,none⟩ = some (.int .i64 t.c.f1) ∧ w'.cell? ⟨g + 1,4,none⟩ = some (.int .i64 t.c.f2) ∧ w'.cell? ⟨g + 1,5,none⟩ = some (.bool t.c.f3) ∧ w'.cell? ⟨g + 1,6,none⟩ = some (.bool t.c.f4) ∧ w'.cell? ⟨g + 1,7,none⟩ = some (.slice A7 t.c.f5.length c7) ∧ w'.cell? ⟨g + 1,10,none⟩ = some (.slice A10 t.ns.length c10) ∧ w'.cell? ⟨g + 1,11,none⟩ = some (.slice A11 t.mo.length c11))) #[false,false,false,false,false,false,false,false,false,false,false,false,false,false,false] (by kernel_rfl) (by rfl) (by rfl) ?_ (fun hHeld => ?_)
 ·exact ⟨H.out.drew.two.cell 2 rfl,H.out.drew.two.cell 3 rfl,H.out.drew.two.cell 4 rfl,H.out.drew.two.cell 5 rfl,H.out.drew.two.cell 6 rfl,H.out.drew.two.cell 7 rfl,H.out.drew.two.cell 10 rfl,H.out.drew.two.cell 11 rfl⟩
 refine pure_ (i := 0) (N := some 34) (v := ?_) (a' := ?_) #[true,false,false,false,false,false,false,false,false,false,false,false,false,false,false] rfl rfl (by kernel_rfl) (fun _ _ _ h => h) (Or.inl ⟨by rfl, ?_⟩) ?_ ?_; rotate_left; · (intro w'; go_simp; with_reducible rfl)
 rotate_left; · (simp only [Act.put,List.setIfInBounds_toArray,List.set_cons_zero,List.set_cons_succ]; rfl)
 refine take_ (i := 1) (N := some 35) (v := ?_) (a' := ?_) #[true,true,false,false,false,false,false,false,false,false,false,false,false,false,false] rfl rfl (by kernel_rfl) (fun _ _ _ h => h) (Or.inl ⟨by rfl, ?_⟩) hHeld ?_ ?_; rotate_left; · (intro w' hSw; (try dsimp only at hSw); go_simp; all_goals with_reducible rfl)
 rotate_left; · (simp only [Act.put,List.setIfInBounds_toArray,List.set_cons_zero,List.set_cons_succ]; rfl)
 refine pure_ (i := 3) (N := some 37) (v := ?_) (a' := ?_) #[true,true,false,true,false,false,false,false,false,false,false,false,false,false,false] rfl rfl (by kernel_rfl) (fun _ _ _ h => h) (Or.inl ⟨by rfl, ?_⟩) ?_ ?_; rotate_left; · (intro w'; go_simp; with_reducible rfl)
 rotate_left; · (simp only [Act.put,List.setIfInBounds_toArray,List.set_cons_zero,List.set_cons_succ]; rfl)
 refine take_ (i := 4) (N := some 38) (v := ?_) (a' := ?_) #[true,true,false,true,true,false,false,false,false,false,false,false,false,false,false] rfl rfl (by kernel_rfl) (fun _ _ _ h => h) (Or.inl ⟨by rfl, ?_⟩) hHeld ?_ ?_; rotate_left; · (intro w' hSw; (try dsimp only at hSw); go_simp; all_goals with_reducible rfl)
 rotate_left; · (simp only [Act.put,List.setIfInBounds_toArray,List.set_cons_zero,List.set_cons_succ]; rfl)
 refine pure_ (i := 6) (N := some 40) (v := ?_) (a' := ?_) #[true,true,false,true,true,false,true,false,false,false,false,false,false,false,false] rfl rfl (by kernel_rfl) (fun _ _ _ h => h) (Or.inl ⟨by rfl, ?_⟩) ?_ ?_; rotate_left; · (intro w'; go_simp; with_reducible rfl)
 rotate_left; · (simp only [Act.put,List.setIfInBounds_toArray,List.set_cons_zero,List.set_cons_succ]; rfl)
 refine take_ (i := 7) (N := some 41) (v := ?_) (a' := ?_) #[true,true,false,true,true,false,true,true,false,false,false,false,false,false,false] rfl rfl (by kernel_rfl) (fun _ _ _ h => h) (Or.inl ⟨by rfl, ?_⟩) hHeld ?_ ?_; rotate_left; · (intro w' hSw; (try dsimp only at hSw); go_simp; all_goals with_reducible rfl)
 rotate_left; · (simp only [Act.put,List.setIfInBounds_toArray,List.set_cons_zero,List.set_cons_succ]; rfl)
 refine one_ (i := 2) (N := some 36) #[true,true,true,true,true,false,true,true,false,false,false,false,false,false,false] rfl rfl (by kernel_rfl) (by decide) (fun K hK => ?_)
 go_simp
 refine (copy_con_at 40 _ _ t.c A7 c7 H.out.drew HL.out.1 HC.out.1 (HH.out.2.1 1).2.2.1 HH.out.1.con).mono ?_
 rintro e w3 ⟨A8,c8,rfl,h3⟩
 refine hK.out _ _ ⟨h3.three.cell 2 rfl,h3.three.cell 3 rfl,h3.three.cell 4 rfl,h3.three.cell 5 rfl,h3.three.cell 6 rfl,h3.three.cell 7 rfl,h3.three.cell 10 rfl,h3.three.cell 11 rfl⟩ (fun hHeld => ?_)
 clear hK K
 try simp only [Act.put,List.setIfInBounds_toArray,List.set_cons_zero,List.set_cons_succ]
 refine pure_ (i := 9) (N := some 43) (v := ?_) (a' := ?_) #[true,true,true,true,true,false,true,true,false,true,false,false,false,false,false] rfl rfl (by kernel_rfl) (fun _ _ _ h => h) (Or.inl ⟨by rfl, ?_⟩) ?_ ?_; rotate_left; · (intro w'; go_simp; with_reducible rfl)
 rotate_left; · (simp only [Act.put,List.setIfInBounds_toArray,List.set_cons_zero,List.set_cons_succ]; rfl)
 refine one_ (i := 5) (N := some 39) #[true,true,true,true,true,true,true,true,false,true,false,false,false,false,false] rfl rfl (by kernel_rfl) (by decide) (fun K hK => ?_)
 go_simp
 refine (clone_strs A10 c10 t.ns h3 HC.out.2.1 (by have := HH.out.1.ns; simp only [M]; omega)).mono ?_
 rintro e w5 ⟨v5,xs5,rfl,hR5,h5⟩
 obtain ⟨A15,c15,rfl⟩ : ∃ A c,v5 = .slice A t.ns.length c := by obtain ⟨-,A,c,e, -⟩ := h5.reads; exact ⟨A,c,e⟩
 have h6 := Vw.row (d := Kd.string) (by decide) rfl (Vw.base h5 (p := fun W => Reps (Kd.string.K W) 1 t.ns xs5) fun wv hb => hR5.imp_ fun _ _ hp => Kd.string.K_below hb hp).two
 refine hK.out _ _ ⟨(four h6).cell 2 rfl,(four h6).cell 3 rfl,(four h6).cell 4 rfl,(four h6).cell 5 rfl,(four h6).cell 6 rfl,(four h6).cell 7 rfl,(four h6).cell 10 rfl,(four h6).cell 11 rfl⟩ (fun hHeld => ?_)
 clear hK K
 try simp only [Act.put,List.setIfInBounds_toArray,List.set_cons_zero,List.set_cons_succ]
 refine one_ (i := 8) (N := some 42) #[true,true,true,true,true,true,true,true,true,true,false,false,false,false,false] rfl rfl (by kernel_rfl) (by decide) (fun K hK => ?_)
 go_simp
 refine (clone_strs A11 c11 t.mo h6 HC.out.2.2.1 (by have := HH.out.1.mo; simp only [M]; omega)).mono ?_
 rintro e w8 ⟨v8,xs8,rfl,hR8,h8⟩
 obtain ⟨A16,c16,rfl⟩ : ∃ A c,v8 = .slice A t.mo.length c := by obtain ⟨-,A,c,e, -⟩ := h8.reads; exact ⟨A,c,e⟩
 have h9 := Vw.row (d := Kd.string) (by decide) rfl (Vw.base h8 (p := fun W => Reps (Kd.string.K W) 1 t.mo xs8) fun wv hb => hR8.imp_ fun _ _ hp => Kd.string.K_below hb hp).two
 refine hK.out _ _ ⟨(five h9).cell 2 rfl,(five h9).cell 3 rfl,(five h9).cell 4 rfl,(five h9).cell 5 rfl,(five h9).cell 6 rfl,(five h9).cell 7 rfl,(five h9).cell 10 rfl,(five h9).cell 11 rfl⟩ (fun hHeld => ?_)
 clear hK K
 try simp only [Act.put,List.setIfInBounds_toArray,List.set_cons_zero,List.set_cons_succ]
 have h10 := five h9
 refine last_ (i := 10) (N := none) #[true,true,true,true,true,true,true,true,true,true,true,false,false,false,false] rfl rfl (by kernel_rfl) (by decide) (fun K hK => ?_)
 refine step_store_off (by rfl) rfl [.int .i64 t.c.f0,.int .i64 t.c.f1,.int .i64 t.c.f2,.bool t.c.f3,.bool t.c.f4,.slice A8 t.c.f5.length c8] rfl rfl rfl (by kernel_rfl) (by simp [Value.oneCell']) h10 (by simp) (new := #[.int .i64 t.k,.string t.n,.int .i64 t.c.f0,.int .i64 t.c.f1,.int .i64 t.c.f2,.bool t.c.f3,.bool t.c.f4,.slice A8 t.c.f5.length c8,.bool t.e,.string t.fr,.slice A10 t.ns.length c10,.slice A11 t.mo.length c11,.slice A12 t.ps.length c12,.slice A13 t.ad.length c13,.slice A14 t.el.length c14]) rfl ?_
 intro w10 h11
 refine hK.out _ _ ?_
 clear hK K
 try simp only [Act.put]
 refine pure_ (i := 11) (N := some 44) (v := ?_) (a' := ?_) #[true,true,true,true,true,true,true,true,true,true,true,true,false,false,false] rfl rfl (by kernel_rfl) (fun _ _ _ h => h) (Or.inl ⟨by rfl, ?_⟩) ?_ ?_; rotate_left; · (intro w'; go_simp; with_reducible rfl)
 rotate_left; · (simp only [Act.put,List.setIfInBounds_toArray]; rfl)
 refine last_ (i := 12) (N := none) #[true,true,true,true,true,true,true,true,true,true,true,true,true,false,false] rfl rfl (by kernel_rfl) (by decide) (fun K hK => ?_)
 refine step_store_off (by rfl) rfl [.slice A15 t.ns.length c15] rfl rfl rfl (by kernel_rfl) (by simp [Value.oneCell']) h11 (by simp) (new := #[.int .i64 t.k,.string t.n,.int .i64 t.c.f0,.int .i64 t.c.f1,.int .i64 t.c.f2,.bool t.c.f3,.bool t.c.f4,.slice A8 t.c.f5.length c8,.bool t.e,.string t.fr,.slice A15 t.ns.length c15,.slice A11 t.mo.length c11,.slice A12 t.ps.length c12,.slice A13 t.ad.length c13,.slice A14 t.el.length c14]) rfl ?_
 intro w11 h12
 refine hK.out _ _ ?_
 clear hK K
 try simp only [Act.put]
 refine pure_ (i := 13) (N := some 45) (v := ?_) (a' := ?_) #[true,true,true,true,true,true,true,true,true,true,true,true,true,true,false] rfl rfl (by kernel_rfl) (fun _ _ _ h => h) (Or.inl ⟨by rfl, ?_⟩) ?_ ?_; rotate_left; · (intro w'; go_simp; with_reducible rfl)
 rotate_left; · (simp only [Act.put]; rfl)
 refine last_ (i := 14) (N := none) #[true,true,true,true,true,true,true,true,true,true,true,true,true,true,true] rfl rfl (by kernel_rfl) (by decide) (fun K hK => ?_)
 refine step_store_off (by rfl) rfl [.slice A16 t.mo.length c16] rfl rfl rfl (by kernel_rfl) (by simp [Value.oneCell']) h12 (by simp) (new := #[.int .i64 t.k,.string t.n,.int .i64 t.c.f0,.int .i64 t.c.f1,.int .i64 t.c.f2,.bool t.c.f3,.bool t.c.f4,.slice A8 t.c.f5.length c8,.bool t.e,.string t.fr,.slice A15 t.ns.length c15,.slice A16 t.mo.length c16,.slice A12 t.ps.length c12,.slice A13 t.ad.length c13,.slice A14 t.el.length c14]) rfl ?_
 intro w12 h13
 refine hK.out _ _ ?_
 clear hK K
 try simp only [Act.put]
 refine done_ (by kernel_rfl) ?_
 obtain ⟨P,hP,h15⟩ : ∃ P : World → Prop,(∀ W,P W → (t.c.f5.length ≤ c8 ∧ kCon.C W A8 t.c.f5.length t.c.f5) ∧ (t.ns.length ≤ c15 ∧ Kd.string.C W A15 t.ns.length t.ns) ∧ (t.mo.length ≤ c16 ∧ Kd.string.C W A16 t.mo.length t.mo)) ∧ S w0 w12 (Blk (g + 1) (.cells #[.int .i64 t.k,.string t.n,.int .i64 t.c.f0,.int .i64 t.c.f1,.int .i64 t.c.f2,.bool t.c.f3,.bool t.c.f4,.slice A8 t.c.f5.length c8,.bool t.e,.string t.fr,.slice A15 t.ns.length c15,.slice A16 t.mo.length c16,.slice A12 t.ps.length c12,.slice A13 t.ad.length c13,.slice A14 t.el.length c14] 38) • (Vw w0 w0.heap.size P • (Blk (g + 2) (.cells #[.int .i64 0,.string ⟨#[]⟩,.int .i64 0,.int .i64 0,.int .i64 0,.bool false,.bool false,.slice none 0 0,.bool false,.string ⟨#[]⟩,.slice none 0 0,.slice none 0 0,.slice none 0 0,.slice none 0 0,.slice none 0 0] 38) • (Blk g (.cells #[.map (some b),.map ob] 59) • (MapV b (strM fm) • R))))) := by
  refine ⟨_,fun W hp => ?_,(Vw.join (Vw.join h13.two.three).three).two⟩
  obtain ⟨h1,⟨A,c,e,h2, -,h3⟩,⟨A',c',e',h4, -,h5⟩⟩ := hp
  cases e
  cases e'
  exact ⟨h1,⟨h2,h3⟩,⟨h4,h5⟩⟩
 have HS := Lib.hid h15
 have HP := Lib.hid hP
 have e12 := h15.cell 12 rfl
 clear h3 h5 h6 h8 h9 h10 h11 h12 h13 h15 hP hR5 hR8 H
 go_wp2
 go_loopw [8,49] (fun vo v wr => ∃ (va : Value) (x : Int),va = vo ∧ 0 ≤ x ∧ x ≤ t.ps.length ∧ v = .int .i64 x ∧ Hid (S w0 wr (RowV 9 1 va x.toNat (strV (ptNames (t.ps.take x.toNat))) • (Blk (g + 1) (.cells #[.int .i64 t.k,.string t.n,.int .i64 t.c.f0,.int .i64 t.c.f1,.int .i64 t.c.f2,.bool t.c.f3,.bool t.c.f4,.slice A8 t.c.f5.length c8,.bool t.e,.string t.fr,.slice A15 t.ns.length c15,.slice A16 t.mo.length c16,.slice A12 t.ps.length c12,.slice A13 t.ad.length c13,.slice A14 t.el.length c14] 38) • (Vw w0 w0.heap.size P • (Blk (g + 2) (.cells #[.int .i64 0,.string ⟨#[]⟩,.int .i64 0,.int .i64 0,.int .i64 0,.bool false,.bool false,.slice none 0 0,.bool false,.string ⟨#[]⟩,.slice none 0 0,.slice none 0 0,.slice none 0 0,.slice none 0 0,.slice none 0 0] 38) • (Blk g (.cells #[.map (some b),.map ob] 59) • (MapV b (strM fm) • R)))))))) (fun _ v _ => t.ps.length - (intOf v).toNat)
 case atStart => exact ⟨_,0,rfl,Int.le_refl _,by omega,rfl,Lib.hid (HS.out.nil _ _)⟩
 case round =>
  clear HS e12
  obtain ⟨va,x,rfl,hx0,hx1,rfl,HR⟩ := hrel
  by_cases hlt : x < t.ps.length
  ·obtain ⟨ad,cs,eA,hcl0,hK,hcell0⟩ := Kd.C_get HC.out.2.2.2.1 zPt x hx0 hlt
   cases eA
   have hcell : ∀ (j : Nat) (u : Value),cs[j]? = some u → w0.cell? (ad.add (x.toNat * 18 + j)) = some u := hcell0
   have HG := Lib.hid (getD_mem t.ps zPt x hx0 hlt)
   generalize t.ps.getD x.toNat zPt = r at *
   have hcl : cs.length = 18 := hcl0
   have hc0 : cs[0]? = some (.string r.n) := by obtain ⟨ts,A',c',rfl, -⟩ := kPt_open hK; rfl
   have HCs := Lib.hid (And.intro hcell (And.intro hcl (And.intro hc0 (kPt.K_one hK))))
   have p126 := eq_true hx0
   have q126 : (x < (t.ps.length : Int)) = True := eq_true hlt
   have e1 : (x + 1).toNat = x.toNat + 1 := by omega
   have HQ : Hid (strV (ptNames (t.ps.take (x + 1).toNat)) = strV (ptNames (t.ps.take x.toNat)) ++ [.string r.n]) := Lib.hid (by
    rw [e1,List.take_add_one,HG.out]
    simp [strV,ptNames])
   have HB : Hid (x.toNat + 1 ≤ 600) := Lib.hid (by have := HH.out.1.ps.1; have := HH.out.1.ad.1; omega)
   clear hcell hcell0 hcl hcl0 hc0 hK
   go_wp2_with (refine held_load 83 _ rfl ?_)
   refine ⟨?_⟩
   refine wpList_load_cells rfl 83 _ rfl _ rfl cs (elem_cells HR.out.below HCs.out.1) _ Tryz.underlying83 rfl (by rw [HCs.out.2.1]; kernel_rfl) ?_
   go_wp2_with (refine held_store _ _ _ rfl ?_)
   refine ⟨?_⟩
   refine wpList_store_off rfl rfl cs rfl rfl rfl (by rw [HCs.out.2.1]; kernel_rfl) HCs.out.2.2.2 (HR.out.alloc _) (by rw [HCs.out.2.1]; simp) (new := cs.toArray) (fill_all (by rw [HCs.out.2.1]; rfl)) ?_
   intro w6 h6
   have H6 := Lib.hid h6
   clear h6
   have d0 := H6.out.cell 0 (v := .string r.n) (by rw [List.getElem?_toArray]; exact HCs.out.2.2.1)
   go_wp2_with (at_builtin; refine Held.out ?_)
   refine ⟨?_⟩
   refine wpList_append_blk (by rfl) _ _ Tryz.underlying34 info_strs rfl (by decide) rfl _ x.toNat _ rfl (cs := [.string r.n]) (H6.out.drop.alloc _) rfl rfl (by simp [Value.oneCell']) (by have := HB.out; simp only [maxLen]; omega) (by have := HB.out; omega) ?_
   intro v7 w7 h7
   have H7 : Hid (S w0 w7 (RowV 9 1 v7 (x + 1).toNat (strV (ptNames (t.ps.take (x + 1).toNat))) • (Blk (g + 1) (.cells #[.int .i64 t.k,.string t.n,.int .i64 t.c.f0,.int .i64 t.c.f1,.int .i64 t.c.f2,.bool t.c.f3,.bool t.c.f4,.slice A8 t.c.f5.length c8,.bool t.e,.string t.fr,.slice A15 t.ns.length c15,.slice A16 t.mo.length c16,.slice (some ad) t.ps.length c12,.slice A13 t.ad.length c13,.slice A14 t.el.length c14] 38) • (Vw w0 w0.heap.size P • (Blk (g + 2) (.cells #[.int .i64 0,.string ⟨#[]⟩,.int .i64 0,.int .i64 0,.int .i64 0,.bool false,.bool false,.slice none 0 0,.bool false,.string ⟨#[]⟩,.slice none 0 0,.slice none 0 0,.slice none 0 0,.slice none 0 0,.slice none 0 0] 38) • (Blk g (.cells #[.map (some b),.map ob] 59) • (MapV b (strM fm) • R))))))) := Lib.hid (by
    rw [HQ.out,e1]
    exact h7.drop2)
   clear h7 d0 e1
   go_wp2
   exact ⟨⟨_,x + 1,rfl,by omega,by omega,by go_num,H7⟩,by simp only [intOf]; omega⟩
  ·have hlt' : (x < (t.ps.length : Int)) = False := eq_false hlt
   have HE := HR.out
   rw [show t.ps.take x.toNat = t.ps from List.take_of_length_le (by omega),show x.toNat = t.ps.length by omega] at HE
   have HE2 : Hid (S w0 wr (RowV 9 1 va (t.ps.length + (0 : Int).toNat) (strV (ptNames t.ps ++ ptNames (t.ad.take (0 : Int).toNat))) • (Blk (g + 1) (.cells #[.int .i64 t.k,.string t.n,.int .i64 t.c.f0,.int .i64 t.c.f1,.int .i64 t.c.f2,.bool t.c.f3,.bool t.c.f4,.slice A8 t.c.f5.length c8,.bool t.e,.string t.fr,.slice A15 t.ns.length c15,.slice A16 t.mo.length c16,.slice A12 t.ps.length c12,.slice A13 t.ad.length c13,.slice A14 t.el.length c14] 38) • (Vw w0 w0.heap.size P • (Blk (g + 2) (.cells #[.int .i64 0,.string ⟨#[]⟩,.int .i64 0,.int .i64 0,.int .i64 0,.bool false,.bool false,.slice none 0 0,.bool false,.string ⟨#[]⟩,.slice none 0 0,.slice none 0 0,.slice none 0 0,.slice none 0 0,.slice none 0 0] 38) • (Blk g (.cells #[.map (some b),.map ob] 59) • (MapV b (strM fm) • R))))))) := Lib.hid (by
    rw [show ptNames (t.ad.take (0 : Int).toNat) = [] from rfl,List.append_nil]
    exact HE)
   have e13 := HE2.out.two.cell 13 rfl
   clear HE
   go_wp2
   go_loopw [8,62] (fun vo v wr => ∃ (va : Value) (x : Int),va = vo ∧ 0 ≤ x ∧ x ≤ t.ad.length ∧ v = .int .i64 x ∧ Hid (S w0 wr (RowV 9 1 va (t.ps.length + x.toNat) (strV (ptNames t.ps ++ ptNames (t.ad.take x.toNat))) • (Blk (g + 1) (.cells #[.int .i64 t.k,.string t.n,.int .i64 t.c.f0,.int .i64 t.c.f1,.int .i64 t.c.f2,.bool t.c.f3,.bool t.c.f4,.slice A8 t.c.f5.length c8,.bool t.e,.string t.fr,.slice A15 t.ns.length c15,.slice A16 t.mo.length c16,.slice A12 t.ps.length c12,.slice A13 t.ad.length c13,.slice A14 t.el.length c14] 38) • (Vw w0 w0.heap.size P • (Blk (g + 2) (.cells #[.int .i64 0,.string ⟨#[]⟩,.int .i64 0,.int .i64 0,.int .i64 0,.bool false,.bool false,.slice none 0 0,.bool false,.string ⟨#[]⟩,.slice none 0 0,.slice none 0 0,.slice none 0 0,.slice none 0 0,.slice none 0 0] 38) • (Blk g (.cells #[.map (some b),.map ob] 59) • (MapV b (strM fm) • R)))))))) (fun _ v _ => t.ad.length - (intOf v).toNat)
   case atStart => exact ⟨_,0,rfl,Int.le_refl _,by omega,rfl,HE2⟩
   case round =>
    clear HE2 HR e13
    obtain ⟨va,x,rfl,hx0,hx1,rfl,HR⟩ := hrel
    by_cases hlt : x < t.ad.length
    ·obtain ⟨ad,cs,eA,hcl0,hK,hcell0⟩ := Kd.C_get HC.out.2.2.2.2.1 zPt x hx0 hlt
     cases eA
     have hcell : ∀ (j : Nat) (u : Value),cs[j]? = some u → w0.cell? (ad.add (x.toNat * 18 + j)) = some u := hcell0
     have HG := Lib.hid (getD_mem t.ad zPt x hx0 hlt)
     generalize t.ad.getD x.toNat zPt = r at *
     have hcl : cs.length = 18 := hcl0
     have hc0 : cs[0]? = some (.string r.n) := by obtain ⟨ts,A',c',rfl, -⟩ := kPt_open hK; rfl
     have HCs := Lib.hid (And.intro hcell (And.intro hcl (And.intro hc0 (kPt.K_one hK))))
     have p126 := eq_true hx0
     have q126 : (x < (t.ad.length : Int)) = True := eq_true hlt
     have e1 : (x + 1).toNat = x.toNat + 1 := by omega
     have HQ : Hid (strV (ptNames t.ps ++ ptNames (t.ad.take (x + 1).toNat)) = strV (ptNames t.ps ++ ptNames (t.ad.take x.toNat)) ++ [.string r.n]) := Lib.hid (by
      rw [e1,List.take_add_one,HG.out]
      simp [strV,ptNames])
     have HB : Hid ((t.ps.length + x.toNat) + 1 ≤ 600) := Lib.hid (by have := HH.out.1.ps.1; have := HH.out.1.ad.1; omega)
     clear hcell hcell0 hcl hcl0 hc0 hK
     go_wp2_with (refine held_load 83 _ rfl ?_)
     refine ⟨?_⟩
     refine wpList_load_cells rfl 83 _ rfl _ rfl cs (elem_cells HR.out.below HCs.out.1) _ Tryz.underlying83 rfl (by rw [HCs.out.2.1]; kernel_rfl) ?_
     go_wp2_with (refine held_store _ _ _ rfl ?_)
     refine ⟨?_⟩
     refine wpList_store_off rfl rfl cs rfl rfl rfl (by rw [HCs.out.2.1]; kernel_rfl) HCs.out.2.2.2 (HR.out.alloc _) (by rw [HCs.out.2.1]; simp) (new := cs.toArray) (fill_all (by rw [HCs.out.2.1]; rfl)) ?_
     intro w6 h6
     have H6 := Lib.hid h6
     clear h6
     have d0 := H6.out.cell 0 (v := .string r.n) (by rw [List.getElem?_toArray]; exact HCs.out.2.2.1)
     go_wp2_with (at_builtin; refine Held.out ?_)
     refine ⟨?_⟩
     refine wpList_append_blk (by rfl) _ _ Tryz.underlying34 info_strs rfl (by decide) rfl _ (t.ps.length + x.toNat) _ rfl (cs := [.string r.n]) (H6.out.drop.alloc _) rfl rfl (by simp [Value.oneCell']) (by have := HB.out; simp only [maxLen]; omega) (by have := HB.out; omega) ?_
     intro v7 w7 h7
     have H7 : Hid (S w0 w7 (RowV 9 1 v7 (t.ps.length + (x + 1).toNat) (strV (ptNames t.ps ++ ptNames (t.ad.take (x + 1).toNat))) • (Blk (g + 1) (.cells #[.int .i64 t.k,.string t.n,.int .i64 t.c.f0,.int .i64 t.c.f1,.int .i64 t.c.f2,.bool t.c.f3,.bool t.c.f4,.slice A8 t.c.f5.length c8,.bool t.e,.string t.fr,.slice A15 t.ns.length c15,.slice A16 t.mo.length c16,.slice A12 t.ps.length c12,.slice (some ad) t.ad.length c13,.slice A14 t.el.length c14] 38) • (Vw w0 w0.heap.size P • (Blk (g + 2) (.cells #[.int .i64 0,.string ⟨#[]⟩,.int .i64 0,.int .i64 0,.int .i64 0,.bool false,.bool false,.slice none 0 0,.bool false,.string ⟨#[]⟩,.slice none 0 0,.slice none 0 0,.slice none 0 0,.slice none 0 0,.slice none 0 0] 38) • (Blk g (.cells #[.map (some b),.map ob] 59) • (MapV b (strM fm) • R))))))) := Lib.hid (by
      rw [HQ.out,e1]
      exact h7.drop2)
     clear h7 d0 e1
     go_wp2
     exact ⟨⟨_,x + 1,rfl,by omega,by omega,by go_num,H7⟩,by simp only [intOf]; omega⟩
    ·have hlt' : (x < (t.ad.length : Int)) = False := eq_false hlt
     have hx : (ptNames t.ps ++ ptNames t.ad).length = t.ps.length + x.toNat := by simp [ptNames]; omega
     have HE := HR.out
     rw [List.take_of_length_le (by omega), ← hx] at HE
     obtain ⟨all,hall⟩ : ∃ l : List ByteArray,l = (ptNames t.ps ++ ptNames t.ad) := ⟨_,rfl⟩
     have hoA : ∀ s ∈ all,oS s := fun s hs => by
      subst hall
      rcases List.mem_append.1 hs with h | h
      ·obtain ⟨p,hp,rfl⟩ := List.mem_map.1 h
       exact (HO.out.2.2.2.1.2 p hp).1
      ·obtain ⟨p,hp,rfl⟩ := List.mem_map.1 h
       exact (HO.out.2.2.2.2.1.2 p hp).1
     rw [← hall] at HE
     have HT3 := HT.out
     rw [← hall] at HT3
     replace HT := Lib.hid HT3
     obtain ⟨AA,cA,rfl,hCA⟩ := str_C rfl HE
     have HCo := Lib.hid (once_at AA cA all HE hCA hoA)
     clear HE hx hall HT3 hoA hCA
     go_wp2_with fail
     refine HCo.out.mono ?_
     rintro e w8 ⟨rfl,h8'⟩
     have HW := Lib.hid h8'.drop
     clear HR h8' HCo
     cases q1 : onceB all with
     | false =>
      have HN : Hid (typP (lookS fm) (n + 1) t = none) := Lib.hid (by rw [HT.out,if_neg (fun h => by rw [q1] at h; exact absurd h.1 (by simp))])
      go_upto_region 18 with fail
      go_wp2_with (refine held_load 38 _ rfl ?_)
      refine ⟨?_⟩
      refine wpList_load_row rfl 38 _ rfl (g + 1) rfl _ _ _ _ HW.out.block Tryz.underlying38 rfl (by kernel_rfl) ?_
      go_wp2_with (refine held_store _ _ _ rfl ?_)
      refine ⟨?_⟩
      refine wpList_store_off rfl rfl [.int .i64 t.k,.string t.n,.int .i64 t.c.f0,.int .i64 t.c.f1,.int .i64 t.c.f2,.bool t.c.f3,.bool t.c.f4,.slice A8 t.c.f5.length c8,.bool t.e,.string t.fr,.slice A15 t.ns.length c15,.slice A16 t.mo.length c16,.slice A12 t.ps.length c12,.slice A13 t.ad.length c13,.slice A14 t.el.length c14] rfl rfl rfl (by kernel_rfl) (by simp [Value.oneCell']) HW.out.three (by simp) (new := #[.int .i64 t.k,.string t.n,.int .i64 t.c.f0,.int .i64 t.c.f1,.int .i64 t.c.f2,.bool t.c.f3,.bool t.c.f4,.slice A8 t.c.f5.length c8,.bool t.e,.string t.fr,.slice A15 t.ns.length c15,.slice A16 t.mo.length c16,.slice A12 t.ps.length c12,.slice A13 t.ad.length c13,.slice A14 t.el.length c14]) rfl ?_
      intro wz hz
      have HZ := Lib.hid hz
      clear hz
      go_wp2
      exact bodyPost_ret (v := .tuple #[.agg #[.int .i64 t.k,.string t.n,.int .i64 t.c.f0,.int .i64 t.c.f1,.int .i64 t.c.f2,.bool t.c.f3,.bool t.c.f4,.slice A8 t.c.f5.length c8,.bool t.e,.string t.fr,.slice A15 t.ns.length c15,.slice A16 t.mo.length c16,.slice A12 t.ps.length c12,.slice A13 t.ad.length c13,.slice A14 t.el.length c14],.bool false]) (results_row_tmp Tryz.results16 _ _ (g + 2) _ _ (0,0) _ rfl HZ.out.block Tryz.underlying38 rfl (by kernel_rfl) rfl) rfl ⟨⟨t.k,t.n,t.c.f0,t.c.f1,t.c.f2,t.c.f3,t.c.f4,A8,t.c.f5.length,c8,t.e,t.fr,A15,t.ns.length,c15,A16,t.mo.length,c16,A12,t.ps.length,c12,A13,t.ad.length,c13,A14,t.el.length,c14⟩,by rw [HN.out]; rfl,Vw.base HZ.out.drop.drop.drop.drop (fun wv _ r hr => by rw [HN.out] at hr; cases hr)⟩
     | true =>
      have h10 := HW.out.cell 10 rfl
      have h11 := HW.out.cell 11 rfl
      go_wp2_with fail
      refine (concat_calls _ A15 c15 A16 c16 t.ns t.mo (HW.out.alloc _) (fun W hW => ⟨hW.cell 0 rfl,hW.cell 1 rfl⟩) (fun W hW => (HP.out W (Vw.get hW.three)).2.1.2) (fun W hW => (HP.out W (Vw.get hW.three)).2.2.2) (by have := HH.out.1.ns; omega) (by have := HH.out.1.mo; omega)).mono ?_
      rintro e w9 ⟨v9,rfl,h9⟩
      obtain ⟨nm,hnm⟩ : ∃ l : List ByteArray,l = t.ns ++ t.mo := ⟨_,rfl⟩
      have hoN : ∀ s ∈ nm,oS s := fun s hs => by
       subst hnm
       exact (List.mem_append.1 hs).elim (HO.out.2.1.2 s) (HO.out.2.2.1.2 s)
      rw [← hnm] at h9
      have HT3 := HT.out
      rw [← hnm] at HT3
      replace HT := Lib.hid HT3
      obtain ⟨AB,cB,rfl,hCB⟩ := str_C rfl h9
      have HCo := Lib.hid (once_at AB cB nm h9 hCB hoN)
      clear hnm HT3 hoN hCB h9
      go_wp2_with fail
      refine HCo.out.mono ?_
      rintro e w10 ⟨rfl,h10'⟩
      have HW2 := Lib.hid h10'.drop.drop
      clear h10' h10 h11 HCo
      cases q2 : onceB nm with
      | false =>
       have HN : Hid (typP (lookS fm) (n + 1) t = none) := Lib.hid (by rw [HT.out,if_neg (fun h => by rw [q2] at h; exact absurd h.2 (by simp))])
       go_upto_region 18 with fail
       go_wp2_with (refine held_load 38 _ rfl ?_)
       refine ⟨?_⟩
       refine wpList_load_row rfl 38 _ rfl (g + 1) rfl _ _ _ _ HW2.out.block Tryz.underlying38 rfl (by kernel_rfl) ?_
       go_wp2_with (refine held_store _ _ _ rfl ?_)
       refine ⟨?_⟩
       refine wpList_store_off rfl rfl [.int .i64 t.k,.string t.n,.int .i64 t.c.f0,.int .i64 t.c.f1,.int .i64 t.c.f2,.bool t.c.f3,.bool t.c.f4,.slice A8 t.c.f5.length c8,.bool t.e,.string t.fr,.slice A15 t.ns.length c15,.slice A16 t.mo.length c16,.slice A12 t.ps.length c12,.slice A13 t.ad.length c13,.slice A14 t.el.length c14] rfl rfl rfl (by kernel_rfl) (by simp [Value.oneCell']) HW2.out.three (by simp) (new := #[.int .i64 t.k,.string t.n,.int .i64 t.c.f0,.int .i64 t.c.f1,.int .i64 t.c.f2,.bool t.c.f3,.bool t.c.f4,.slice A8 t.c.f5.length c8,.bool t.e,.string t.fr,.slice A15 t.ns.length c15,.slice A16 t.mo.length c16,.slice A12 t.ps.length c12,.slice A13 t.ad.length c13,.slice A14 t.el.length c14]) rfl ?_
       intro wz hz
       have HZ := Lib.hid hz
       clear hz
       go_wp2
       exact bodyPost_ret (v := .tuple #[.agg #[.int .i64 t.k,.string t.n,.int .i64 t.c.f0,.int .i64 t.c.f1,.int .i64 t.c.f2,.bool t.c.f3,.bool t.c.f4,.slice A8 t.c.f5.length c8,.bool t.e,.string t.fr,.slice A15 t.ns.length c15,.slice A16 t.mo.length c16,.slice A12 t.ps.length c12,.slice A13 t.ad.length c13,.slice A14 t.el.length c14],.bool false]) (results_row_tmp Tryz.results16 _ _ (g + 2) _ _ (0,0) _ rfl HZ.out.block Tryz.underlying38 rfl (by kernel_rfl) rfl) rfl ⟨⟨t.k,t.n,t.c.f0,t.c.f1,t.c.f2,t.c.f3,t.c.f4,A8,t.c.f5.length,c8,t.e,t.fr,A15,t.ns.length,c15,A16,t.mo.length,c16,A12,t.ps.length,c12,A13,t.ad.length,c13,A14,t.el.length,c14⟩,by rw [HN.out]; rfl,Vw.base HZ.out.drop.drop.drop.drop (fun wv _ r hr => by rw [HN.out] at hr; cases hr)⟩
      | true =>
       have HT2 : Hid (typP (lookS fm) (n + 1) t = elsP (typP (lookS fm) n) t) := Lib.hid (by rw [HT.out,if_pos ⟨q1,q2⟩])
       clear HW q1 q2
       have n0 := (four HW2.out).cell 0 rfl
       have n1 := (four HW2.out).cell 1 rfl
       have k0 := HW2.out.cell 12 rfl
       go_wp2_with fail
       refine (parts_calls b ob fm n HH.out.2.2 A12 c12 t.ps (five HW2.out) HC.out.2.2.2.1 HO.out.2.2.2.1.2 HH.out.1.ps.1 HH.out.1.ps.2).mono ?_
       rintro e w20 ⟨A20,n20,c20,rfl,h20⟩
       obtain ⟨P1,hP2,h20'⟩ : ∃ P1 : World → Prop,(∀ W,P1 W → P W ∧ ∀ r,partsP (typP (lookS fm) n) t.ps = some r → n20 = r.length ∧ r.length ≤ c20 ∧ kPt.C W A20 r.length r) ∧ S w0 w20 (Blk (g + 1) (.cells #[.int .i64 t.k,.string t.n,.int .i64 t.c.f0,.int .i64 t.c.f1,.int .i64 t.c.f2,.bool t.c.f3,.bool t.c.f4,.slice A8 t.c.f5.length c8,.bool t.e,.string t.fr,.slice A15 t.ns.length c15,.slice A16 t.mo.length c16,.slice A12 t.ps.length c12,.slice A13 t.ad.length c13,.slice A14 t.el.length c14] 38) • (Vw w0 w0.heap.size P1 • (Blk (g + 2) (.cells #[.int .i64 0,.string ⟨#[]⟩,.int .i64 0,.int .i64 0,.int .i64 0,.bool false,.bool false,.slice none 0 0,.bool false,.string ⟨#[]⟩,.slice none 0 0,.slice none 0 0,.slice none 0 0,.slice none 0 0,.slice none 0 0] 38) • (Blk g (.cells #[.map (some b),.map ob] 59) • (MapV b (strM fm) • R))))) :=
        ⟨_,fun W hp => hp,four (four (five (five (Vw.join (four h20)).three)))⟩
       have H20 : Hid (S w0 (w20.setCell ⟨g + 1,12,none⟩ (.slice A20 n20 c20)) (Blk (g + 1) (.cells #[.int .i64 t.k,.string t.n,.int .i64 t.c.f0,.int .i64 t.c.f1,.int .i64 t.c.f2,.bool t.c.f3,.bool t.c.f4,.slice A8 t.c.f5.length c8,.bool t.e,.string t.fr,.slice A15 t.ns.length c15,.slice A16 t.mo.length c16,.slice A20 n20 c20,.slice A13 t.ad.length c13,.slice A14 t.el.length c14] 38) • (Vw w0 w0.heap.size P1 • (Blk (g + 2) (.cells #[.int .i64 0,.string ⟨#[]⟩,.int .i64 0,.int .i64 0,.int .i64 0,.bool false,.bool false,.slice none 0 0,.bool false,.string ⟨#[]⟩,.slice none 0 0,.slice none 0 0,.slice none 0 0,.slice none 0 0,.slice none 0 0] 38) • (Blk g (.cells #[.map (some b),.map ob] 59) • (MapV b (strM fm) • R)))))) := Lib.hid (h20'.set 12 (.slice A20 n20 c20))
       have HP20 := Lib.hid hP2
       have f20 := h20'.free 12 (.inr (Nat.le_refl _))
       have k20 := h20'.cell 12 rfl
       cases hq20 : partsP (typP (lookS fm) n) t.ps with
       | none =>
        have n0 := (four H20.out).cell 0 rfl
        have n1 := (four H20.out).cell 1 rfl
        have k0 := H20.out.cell 13 rfl
        go_wp2_with fail
        refine (parts_calls b ob fm n HH.out.2.2 A13 c13 t.ad (five H20.out) HC.out.2.2.2.2.1 HO.out.2.2.2.2.1.2 HH.out.1.ad.1 HH.out.1.ad.2).mono ?_
        rintro e w21 ⟨A21,n21,c21,rfl,h21⟩
        obtain ⟨P2,hP2,h21'⟩ : ∃ P2 : World → Prop,(∀ W,P2 W → P1 W ∧ ∀ r,partsP (typP (lookS fm) n) t.ad = some r → n21 = r.length ∧ r.length ≤ c21 ∧ kPt.C W A21 r.length r) ∧ S w0 w21 (Blk (g + 1) (.cells #[.int .i64 t.k,.string t.n,.int .i64 t.c.f0,.int .i64 t.c.f1,.int .i64 t.c.f2,.bool t.c.f3,.bool t.c.f4,.slice A8 t.c.f5.length c8,.bool t.e,.string t.fr,.slice A15 t.ns.length c15,.slice A16 t.mo.length c16,.slice A20 n20 c20,.slice A13 t.ad.length c13,.slice A14 t.el.length c14] 38) • (Vw w0 w0.heap.size P2 • (Blk (g + 2) (.cells #[.int .i64 0,.string ⟨#[]⟩,.int .i64 0,.int .i64 0,.int .i64 0,.bool false,.bool false,.slice none 0 0,.bool false,.string ⟨#[]⟩,.slice none 0 0,.slice none 0 0,.slice none 0 0,.slice none 0 0,.slice none 0 0] 38) • (Blk g (.cells #[.map (some b),.map ob] 59) • (MapV b (strM fm) • R))))) :=
         ⟨_,fun W hp => hp,four (four (five (five (Vw.join (four h21)).three)))⟩
        have H21 : Hid (S w0 (w21.setCell ⟨g + 1,13,none⟩ (.slice A21 n21 c21)) (Blk (g + 1) (.cells #[.int .i64 t.k,.string t.n,.int .i64 t.c.f0,.int .i64 t.c.f1,.int .i64 t.c.f2,.bool t.c.f3,.bool t.c.f4,.slice A8 t.c.f5.length c8,.bool t.e,.string t.fr,.slice A15 t.ns.length c15,.slice A16 t.mo.length c16,.slice A20 n20 c20,.slice A21 n21 c21,.slice A14 t.el.length c14] 38) • (Vw w0 w0.heap.size P2 • (Blk (g + 2) (.cells #[.int .i64 0,.string ⟨#[]⟩,.int .i64 0,.int .i64 0,.int .i64 0,.bool false,.bool false,.slice none 0 0,.bool false,.string ⟨#[]⟩,.slice none 0 0,.slice none 0 0,.slice none 0 0,.slice none 0 0,.slice none 0 0] 38) • (Blk g (.cells #[.map (some b),.map ob] 59) • (MapV b (strM fm) • R)))))) := Lib.hid (h21'.set 13 (.slice A21 n21 c21))
        have HP21 := Lib.hid hP2
        have f21 := h21'.free 13 (.inr (Nat.le_refl _))
        have k21 := h21'.cell 13 rfl
        cases hq21 : partsP (typP (lookS fm) n) t.ad with
        | none =>
         have HN : Hid (typP (lookS fm) (n + 1) t = none) := Lib.hid (by rw [HT2.out]; unfold elsP; rw [hq20])
         go_upto_region 23 with fail
         go_wp2_with (refine held_load 38 _ rfl ?_)
         refine ⟨?_⟩
         refine wpList_load_row rfl 38 _ rfl (g + 1) rfl _ _ _ _ H21.out.block Tryz.underlying38 rfl (by kernel_rfl) ?_
         go_wp2_with (refine held_store _ _ _ rfl ?_)
         refine ⟨?_⟩
         refine wpList_store_off rfl rfl [.int .i64 t.k,.string t.n,.int .i64 t.c.f0,.int .i64 t.c.f1,.int .i64 t.c.f2,.bool t.c.f3,.bool t.c.f4,.slice A8 t.c.f5.length c8,.bool t.e,.string t.fr,.slice A15 t.ns.length c15,.slice A16 t.mo.length c16,.slice A20 n20 c20,.slice A21 n21 c21,.slice A14 t.el.length c14] rfl rfl rfl (by kernel_rfl) (by simp [Value.oneCell']) H21.out.three (by simp) (new := #[.int .i64 t.k,.string t.n,.int .i64 t.c.f0,.int .i64 t.c.f1,.int .i64 t.c.f2,.bool t.c.f3,.bool t.c.f4,.slice A8 t.c.f5.length c8,.bool t.e,.string t.fr,.slice A15 t.ns.length c15,.slice A16 t.mo.length c16,.slice A20 n20 c20,.slice A21 n21 c21,.slice A14 t.el.length c14]) rfl ?_
         intro wz hz
         have HZ := Lib.hid hz
         clear hz
         go_wp2
         exact bodyPost_ret (v := .tuple #[.agg #[.int .i64 t.k,.string t.n,.int .i64 t.c.f0,.int .i64 t.c.f1,.int .i64 t.c.f2,.bool t.c.f3,.bool t.c.f4,.slice A8 t.c.f5.length c8,.bool t.e,.string t.fr,.slice A15 t.ns.length c15,.slice A16 t.mo.length c16,.slice A20 n20 c20,.slice A21 n21 c21,.slice A14 t.el.length c14],.bool false]) (results_row_tmp Tryz.results16 _ _ (g + 2) _ _ (0,0) _ rfl HZ.out.block Tryz.underlying38 rfl (by kernel_rfl) rfl) rfl ⟨⟨t.k,t.n,t.c.f0,t.c.f1,t.c.f2,t.c.f3,t.c.f4,A8,t.c.f5.length,c8,t.e,t.fr,A15,t.ns.length,c15,A16,t.mo.length,c16,A20,n20,c20,A21,n21,c21,A14,t.el.length,c14⟩,by rw [HN.out]; rfl,Vw.base HZ.out.drop.drop.drop.drop (fun wv _ r hr => by rw [HN.out] at hr; cases hr)⟩
        | some ad1 =>
         have HN : Hid (typP (lookS fm) (n + 1) t = none) := Lib.hid (by rw [HT2.out]; unfold elsP; rw [hq20])
         go_upto_region 23 with fail
         go_wp2_with (refine held_load 38 _ rfl ?_)
         refine ⟨?_⟩
         refine wpList_load_row rfl 38 _ rfl (g + 1) rfl _ _ _ _ H21.out.block Tryz.underlying38 rfl (by kernel_rfl) ?_
         go_wp2_with (refine held_store _ _ _ rfl ?_)
         refine ⟨?_⟩
         refine wpList_store_off rfl rfl [.int .i64 t.k,.string t.n,.int .i64 t.c.f0,.int .i64 t.c.f1,.int .i64 t.c.f2,.bool t.c.f3,.bool t.c.f4,.slice A8 t.c.f5.length c8,.bool t.e,.string t.fr,.slice A15 t.ns.length c15,.slice A16 t.mo.length c16,.slice A20 n20 c20,.slice A21 n21 c21,.slice A14 t.el.length c14] rfl rfl rfl (by kernel_rfl) (by simp [Value.oneCell']) H21.out.three (by simp) (new := #[.int .i64 t.k,.string t.n,.int .i64 t.c.f0,.int .i64 t.c.f1,.int .i64 t.c.f2,.bool t.c.f3,.bool t.c.f4,.slice A8 t.c.f5.length c8,.bool t.e,.string t.fr,.slice A15 t.ns.length c15,.slice A16 t.mo.length c16,.slice A20 n20 c20,.slice A21 n21 c21,.slice A14 t.el.length c14]) rfl ?_
         intro wz hz
         have HZ := Lib.hid hz
         clear hz
         go_wp2
         exact bodyPost_ret (v := .tuple #[.agg #[.int .i64 t.k,.string t.n,.int .i64 t.c.f0,.int .i64 t.c.f1,.int .i64 t.c.f2,.bool t.c.f3,.bool t.c.f4,.slice A8 t.c.f5.length c8,.bool t.e,.string t.fr,.slice A15 t.ns.length c15,.slice A16 t.mo.length c16,.slice A20 n20 c20,.slice A21 n21 c21,.slice A14 t.el.length c14],.bool false]) (results_row_tmp Tryz.results16 _ _ (g + 2) _ _ (0,0) _ rfl HZ.out.block Tryz.underlying38 rfl (by kernel_rfl) rfl) rfl ⟨⟨t.k,t.n,t.c.f0,t.c.f1,t.c.f2,t.c.f3,t.c.f4,A8,t.c.f5.length,c8,t.e,t.fr,A15,t.ns.length,c15,A16,t.mo.length,c16,A20,n20,c20,A21,n21,c21,A14,t.el.length,c14⟩,by rw [HN.out]; rfl,Vw.base HZ.out.drop.drop.drop.drop (fun wv _ r hr => by rw [HN.out] at hr; cases hr)⟩
       | some ps1 =>
        have n0 := (four H20.out).cell 0 rfl
        have n1 := (four H20.out).cell 1 rfl
        have k0 := H20.out.cell 13 rfl
        go_wp2_with fail
        refine (parts_calls b ob fm n HH.out.2.2 A13 c13 t.ad (five H20.out) HC.out.2.2.2.2.1 HO.out.2.2.2.2.1.2 HH.out.1.ad.1 HH.out.1.ad.2).mono ?_
        rintro e w21 ⟨A21,n21,c21,rfl,h21⟩
        obtain ⟨P2,hP2,h21'⟩ : ∃ P2 : World → Prop,(∀ W,P2 W → P1 W ∧ ∀ r,partsP (typP (lookS fm) n) t.ad = some r → n21 = r.length ∧ r.length ≤ c21 ∧ kPt.C W A21 r.length r) ∧ S w0 w21 (Blk (g + 1) (.cells #[.int .i64 t.k,.string t.n,.int .i64 t.c.f0,.int .i64 t.c.f1,.int .i64 t.c.f2,.bool t.c.f3,.bool t.c.f4,.slice A8 t.c.f5.length c8,.bool t.e,.string t.fr,.slice A15 t.ns.length c15,.slice A16 t.mo.length c16,.slice A20 n20 c20,.slice A13 t.ad.length c13,.slice A14 t.el.length c14] 38) • (Vw w0 w0.heap.size P2 • (Blk (g + 2) (.cells #[.int .i64 0,.string ⟨#[]⟩,.int .i64 0,.int .i64 0,.int .i64 0,.bool false,.bool false,.slice none 0 0,.bool false,.string ⟨#[]⟩,.slice none 0 0,.slice none 0 0,.slice none 0 0,.slice none 0 0,.slice none 0 0] 38) • (Blk g (.cells #[.map (some b),.map ob] 59) • (MapV b (strM fm) • R))))) :=
         ⟨_,fun W hp => hp,four (four (five (five (Vw.join (four h21)).three)))⟩
        have H21 : Hid (S w0 (w21.setCell ⟨g + 1,13,none⟩ (.slice A21 n21 c21)) (Blk (g + 1) (.cells #[.int .i64 t.k,.string t.n,.int .i64 t.c.f0,.int .i64 t.c.f1,.int .i64 t.c.f2,.bool t.c.f3,.bool t.c.f4,.slice A8 t.c.f5.length c8,.bool t.e,.string t.fr,.slice A15 t.ns.length c15,.slice A16 t.mo.length c16,.slice A20 n20 c20,.slice A21 n21 c21,.slice A14 t.el.length c14] 38) • (Vw w0 w0.heap.size P2 • (Blk (g + 2) (.cells #[.int .i64 0,.string ⟨#[]⟩,.int .i64 0,.int .i64 0,.int .i64 0,.bool false,.bool false,.slice none 0 0,.bool false,.string ⟨#[]⟩,.slice none 0 0,.slice none 0 0,.slice none 0 0,.slice none 0 0,.slice none 0 0] 38) • (Blk g (.cells #[.map (some b),.map ob] 59) • (MapV b (strM fm) • R)))))) := Lib.hid (h21'.set 13 (.slice A21 n21 c21))
        have HP21 := Lib.hid hP2
        have f21 := h21'.free 13 (.inr (Nat.le_refl _))
        have k21 := h21'.cell 13 rfl
        cases hq21 : partsP (typP (lookS fm) n) t.ad with
        | none =>
         have HN : Hid (typP (lookS fm) (n + 1) t = none) := Lib.hid (by rw [HT2.out]; unfold elsP; rw [hq20,hq21])
         go_upto_region 23 with fail
         go_wp2_with (refine held_load 38 _ rfl ?_)
         refine ⟨?_⟩
         refine wpList_load_row rfl 38 _ rfl (g + 1) rfl _ _ _ _ H21.out.block Tryz.underlying38 rfl (by kernel_rfl) ?_
         go_wp2_with (refine held_store _ _ _ rfl ?_)
         refine ⟨?_⟩
         refine wpList_store_off rfl rfl [.int .i64 t.k,.string t.n,.int .i64 t.c.f0,.int .i64 t.c.f1,.int .i64 t.c.f2,.bool t.c.f3,.bool t.c.f4,.slice A8 t.c.f5.length c8,.bool t.e,.string t.fr,.slice A15 t.ns.length c15,.slice A16 t.mo.length c16,.slice A20 n20 c20,.slice A21 n21 c21,.slice A14 t.el.length c14] rfl rfl rfl (by kernel_rfl) (by simp [Value.oneCell']) H21.out.three (by simp) (new := #[.int .i64 t.k,.string t.n,.int .i64 t.c.f0,.int .i64 t.c.f1,.int .i64 t.c.f2,.bool t.c.f3,.bool t.c.f4,.slice A8 t.c.f5.length c8,.bool t.e,.string t.fr,.slice A15 t.ns.length c15,.slice A16 t.mo.length c16,.slice A20 n20 c20,.slice A21 n21 c21,.slice A14 t.el.length c14]) rfl ?_
         intro wz hz
         have HZ := Lib.hid hz
         clear hz
         go_wp2
         exact bodyPost_ret (v := .tuple #[.agg #[.int .i64 t.k,.string t.n,.int .i64 t.c.f0,.int .i64 t.c.f1,.int .i64 t.c.f2,.bool t.c.f3,.bool t.c.f4,.slice A8 t.c.f5.length c8,.bool t.e,.string t.fr,.slice A15 t.ns.length c15,.slice A16 t.mo.length c16,.slice A20 n20 c20,.slice A21 n21 c21,.slice A14 t.el.length c14],.bool false]) (results_row_tmp Tryz.results16 _ _ (g + 2) _ _ (0,0) _ rfl HZ.out.block Tryz.underlying38 rfl (by kernel_rfl) rfl) rfl ⟨⟨t.k,t.n,t.c.f0,t.c.f1,t.c.f2,t.c.f3,t.c.f4,A8,t.c.f5.length,c8,t.e,t.fr,A15,t.ns.length,c15,A16,t.mo.length,c16,A20,n20,c20,A21,n21,c21,A14,t.el.length,c14⟩,by rw [HN.out]; rfl,Vw.base HZ.out.drop.drop.drop.drop (fun wv _ r hr => by rw [HN.out] at hr; cases hr)⟩
        | some ad1 =>
         have k0' := H21.out.cell 14 rfl
         go_wp2_with fail
         refine (clone_tys A14 c14 t.el H21.out HC.out.2.2.2.2.2 (by have := HH.out.1.el.1; simp only [M]; omega)).mono ?_
         rintro e w24 ⟨v24,xs,rfl,hR24,h24⟩
         obtain ⟨B1,p1,rfl,hp1⟩ : ∃ B1 p1,v24 = .slice B1 t.el.length p1 ∧ t.el.length ≤ p1 := by obtain ⟨-,B1,p1,e,hle, -⟩ := h24.reads; exact ⟨B1,p1,e,hle⟩
         have HX := Lib.hid hR24
         have hp1' := Lib.hid hp1
         have H24 := Lib.hid (h24.two.set 14 (.slice B1 t.el.length p1))
         have H25 : Hid (S w0 (w24.setCell ⟨g + 1,14,none⟩ (.slice B1 t.el.length p1)) (RowV 38 15 (.slice B1 t.el.length p1) t.el.length xs • (Vw w0 w0.heap.size (fun W => Reps (kTy.K W) 15 t.el xs) • (MapV b (strM fm) • (Blk g (.cells #[.map (some b),.map ob] 59) • (Blk (g + 1) (.cells #[.int .i64 t.k,.string t.n,.int .i64 t.c.f0,.int .i64 t.c.f1,.int .i64 t.c.f2,.bool t.c.f3,.bool t.c.f4,.slice A8 t.c.f5.length c8,.bool t.e,.string t.fr,.slice A15 t.ns.length c15,.slice A16 t.mo.length c16,.slice A20 n20 c20,.slice A21 n21 c21,.slice B1 t.el.length p1] 38) • (Vw w0 w0.heap.size P2 • (Blk (g + 2) (.cells #[.int .i64 0,.string ⟨#[]⟩,.int .i64 0,.int .i64 0,.int .i64 0,.bool false,.bool false,.slice none 0 0,.bool false,.string ⟨#[]⟩,.slice none 0 0,.slice none 0 0,.slice none 0 0,.slice none 0 0,.slice none 0 0] 38) • R)))))))) := Lib.hid (five (St.three (seven (six (Vw.base H24.out (fun wv hb => HX.out.imp_ fun _ _ hp => kTy.K_below hb hp))))))
         have f14 := h24.two.free 14 (.inr (Nat.le_refl _))
         have k14 := h24.two.cell 14 rfl
         have m14 := H24.out.cell 14 rfl
         clear H21 H20 h24 hR24 hp1 H24 k0'
         go_wp2
         go_loopw [116] (fun v wr => ∃ (x : Int) (xk : List Value) (y : List Ty),0 ≤ x ∧ x ≤ t.el.length ∧ v = .int .i64 x ∧ Hid (S w0 wr (RowV 38 15 (.slice B1 t.el.length p1) t.el.length xk • (Vw w0 w0.heap.size (fun W => Reps (kTy.K W) 15 (y ++ t.el.drop x.toNat) xk) • (MapV b (strM fm) • (Blk g (.cells #[.map (some b),.map ob] 59) • (Blk (g + 1) (.cells #[.int .i64 t.k,.string t.n,.int .i64 t.c.f0,.int .i64 t.c.f1,.int .i64 t.c.f2,.bool t.c.f3,.bool t.c.f4,.slice A8 t.c.f5.length c8,.bool t.e,.string t.fr,.slice A15 t.ns.length c15,.slice A16 t.mo.length c16,.slice A20 n20 c20,.slice A21 n21 c21,.slice B1 t.el.length p1] 38) • (Vw w0 w0.heap.size P2 • (Blk (g + 2) (.cells #[.int .i64 0,.string ⟨#[]⟩,.int .i64 0,.int .i64 0,.int .i64 0,.bool false,.bool false,.slice none 0 0,.bool false,.string ⟨#[]⟩,.slice none 0 0,.slice none 0 0,.slice none 0 0,.slice none 0 0,.slice none 0 0] 38) • R)))))))) ∧ Hid (mapO (typP (lookS fm) n) (t.el.take x.toNat) = some y) ∧ Hid (xk.drop (x.toNat * 15) = xs.drop (x.toNat * 15))) (fun v _ => t.el.length - (intOf v).toNat)
         case atStart => exact ⟨0,xs,[],Int.le_refl _,by omega,rfl,H25,Lib.hid rfl,Lib.hid rfl⟩
         case round =>
          clear H25 f14 k14 m14
          obtain ⟨x,xk,y,hx0,hx1,rfl,HR,HY,HXT⟩ := hrel
          by_cases hlt : x < t.el.length
          ·
           rcases HR.out.rowForm with ⟨eB,hz, -⟩ | ⟨g1,cap1, -, -, -,eB, -⟩
           ·exact absurd hz (by omega)
           cases eB
           have HG := Lib.hid (getD_mem t.el zTy x hx0 hlt)
           generalize t.el.getD x.toNat zTy = r at *
           obtain ⟨cs,hcs⟩ : ∃ cs,cs = (xs.drop (x.toNat * 15)).take 15 := ⟨_,rfl⟩
           have hK : kTy.K w0 r cs := by rw [hcs]; exact HX.out.2 x.toNat r HG.out
           have HCs : Hid ((∀ (j : Nat) (u : Value),cs[j]? = some u → wr.cell? ⟨g1,x.toNat * 15 + j,none⟩ = some u) ∧ cs.length = 15 ∧ (∀ u ∈ cs,u.oneCell' = true) ∧ kTy.K w0 r cs) := Lib.hid ⟨fun j u hu => by
            obtain ⟨-,A,c,e, -, -,hcell⟩ := HR.out.reads
            cases e
            have h1 : xk[x.toNat * 15 + j]? = some u := by
             rw [hcs, ← HXT.out,List.getElem?_take] at hu
             split at hu
             ·rwa [List.getElem?_drop] at hu
             ·cases hu
            obtain ⟨ad',e',h2⟩ := hcell _ u h1
            cases e'
            rwa [Sep.add_plain] at h2,kTy.K_len hK,kTy.K_one hK,hK⟩
           have HG2 := Lib.hid (And.intro (HO.out.2.2.2.2.2.1.2 r (List.mem_of_getElem? HG.out)) (HH.out.1.el.2 r (List.mem_of_getElem? HG.out)))
           have p126 := eq_true hx0
           have q126 : (x < (t.el.length : Int)) = True := eq_true hlt
           clear hK hcs
           go_wp2_with (refine held_load 38 _ rfl ?_)
           refine ⟨?_⟩
           refine wpList_load_cells rfl 38 _ rfl _ rfl cs (fun j u hu => by rw [WideShapes.add_plain]; exact HCs.out.1 j u hu) _ Tryz.underlying38 rfl (by rw [HCs.out.2.1]; kernel_rfl) ?_
           go_wp2_with (refine held_store _ _ _ rfl ?_)
           refine ⟨?_⟩
           refine wpList_store_off rfl rfl cs rfl rfl rfl (by rw [HCs.out.2.1]; kernel_rfl) HCs.out.2.2.1 (HR.out.alloc _) (by rw [HCs.out.2.1]; simp) (new := cs.toArray) (fill_all (by rw [HCs.out.2.1]; rfl)) ?_
           intro w27 h27
           have H27 := Lib.hid h27
           have n0 := (five h27).cell 0 rfl
           have n1 := (five h27).cell 1 rfl
           clear h27
           go_wp2_with (refine held_load 38 _ rfl ?_)
           refine ⟨?_⟩
           refine wpList_load_row rfl 38 _ rfl wr.heap.size rfl _ _ _ _ H27.out.block Tryz.underlying38 rfl (by rw [List.size_toArray,HCs.out.2.1]; kernel_rfl) ?_
           go_wp2_with fail
           refine (HH.out.2.2 _ _ r cs (four H27.out) HCs.out.2.2.2 HG2.out.1 HG2.out.2).mono ?_
           rintro e w28 ⟨q,rfl,h28⟩
           have H28 := Lib.hid h28
           clear h28 n0 n1 H27
           go_wp2_with (refine held_store _ _ _ rfl ?_)
           refine ⟨?_⟩
           refine wpList_store_off rfl rfl [.int .i64 q.k,.string q.n,.int .i64 q.c0,.int .i64 q.c1,.int .i64 q.c2,.bool q.c3,.bool q.c4,.slice q.A7 q.n7 q.p7,.bool q.e,.string q.fr,.slice q.A10 q.n10 q.p10,.slice q.A11 q.n11 q.p11,.slice q.A12 q.n12 q.p12,.slice q.A13 q.n13 q.p13,.slice q.A14 q.n14 q.p14] rfl rfl rfl (by kernel_rfl) (by simp [Value.oneCell']) (H28.out.alloc _) (by simp) (new := #[.int .i64 q.k,.string q.n,.int .i64 q.c0,.int .i64 q.c1,.int .i64 q.c2,.bool q.c3,.bool q.c4,.slice q.A7 q.n7 q.p7,.bool q.e,.string q.fr,.slice q.A10 q.n10 q.p10,.slice q.A11 q.n11 q.p11,.slice q.A12 q.n12 q.p12,.slice q.A13 q.n13 q.p13,.slice q.A14 q.n14 q.p14]) rfl ?_
           intro w29 h29
           have H30 := Lib.hid (four h29).drop
           clear h29 H28
           cases hq : typP (lookS fm) n r with
           | none =>
            have HN : Hid (typP (lookS fm) (n + 1) t = none) := Lib.hid (by
             rw [HT2.out]
             unfold elsP
             rw [hq20,hq21,mapO_none (List.mem_of_getElem? HG.out) hq]
             rfl)
            have HW := Lib.hid (five (five (five (H30.out.drop.drop.two.drop.two.drop).two)))
            go_upto_region 30 with fail
            go_wp2_with (refine held_load 38 _ rfl ?_)
            refine ⟨?_⟩
            refine wpList_load_row rfl 38 _ rfl (g + 1) rfl _ _ _ _ HW.out.block Tryz.underlying38 rfl (by kernel_rfl) ?_
            go_wp2_with (refine held_store _ _ _ rfl ?_)
            refine ⟨?_⟩
            refine wpList_store_off rfl rfl [.int .i64 t.k,.string t.n,.int .i64 t.c.f0,.int .i64 t.c.f1,.int .i64 t.c.f2,.bool t.c.f3,.bool t.c.f4,.slice A8 t.c.f5.length c8,.bool t.e,.string t.fr,.slice A15 t.ns.length c15,.slice A16 t.mo.length c16,.slice A20 n20 c20,.slice A21 n21 c21,.slice (some ⟨g1,0,none⟩) t.el.length p1] rfl rfl rfl (by kernel_rfl) (by simp [Value.oneCell']) HW.out.three (by simp) (new := #[.int .i64 t.k,.string t.n,.int .i64 t.c.f0,.int .i64 t.c.f1,.int .i64 t.c.f2,.bool t.c.f3,.bool t.c.f4,.slice A8 t.c.f5.length c8,.bool t.e,.string t.fr,.slice A15 t.ns.length c15,.slice A16 t.mo.length c16,.slice A20 n20 c20,.slice A21 n21 c21,.slice (some ⟨g1,0,none⟩) t.el.length p1]) rfl ?_
            intro wz hz
            have HZ := Lib.hid hz
            clear hz
            go_wp2
            exact bodyPost_ret (v := .tuple #[.agg #[.int .i64 t.k,.string t.n,.int .i64 t.c.f0,.int .i64 t.c.f1,.int .i64 t.c.f2,.bool t.c.f3,.bool t.c.f4,.slice A8 t.c.f5.length c8,.bool t.e,.string t.fr,.slice A15 t.ns.length c15,.slice A16 t.mo.length c16,.slice A20 n20 c20,.slice A21 n21 c21,.slice (some ⟨g1,0,none⟩) t.el.length p1],.bool false]) (results_row_tmp Tryz.results16 _ _ (g + 2) _ _ (0,0) _ rfl HZ.out.block Tryz.underlying38 rfl (by kernel_rfl) rfl) rfl ⟨⟨t.k,t.n,t.c.f0,t.c.f1,t.c.f2,t.c.f3,t.c.f4,A8,t.c.f5.length,c8,t.e,t.fr,A15,t.ns.length,c15,A16,t.mo.length,c16,A20,n20,c20,A21,n21,c21,(some ⟨g1,0,none⟩),t.el.length,p1⟩,by rw [HN.out]; rfl,Vw.base HZ.out.drop.drop.drop.drop (fun wv _ r hr => by rw [HN.out] at hr; cases hr)⟩
           | some t1 =>
            have k14 := (seven H30.out).cell 14 rfl
            go_wp2_with (refine held_load 38 _ rfl ?_)
            refine ⟨?_⟩
            refine wpList_load_row rfl 38 _ rfl w28.heap.size rfl _ _ _ _ H30.out.block Tryz.underlying38 rfl (by kernel_rfl) ?_
            go_wp2_with (refine held_store _ _ _ rfl ?_)
            refine ⟨?_⟩
            refine wpList_store_row rfl rfl [.int .i64 q.k,.string q.n,.int .i64 q.c0,.int .i64 q.c1,.int .i64 q.c2,.bool q.c3,.bool q.c4,.slice q.A7 q.n7 q.p7,.bool q.e,.string q.fr,.slice q.A10 q.n10 q.p10,.slice q.A11 q.n11 q.p11,.slice q.A12 q.n12 q.p12,.slice q.A13 q.n13 q.p13,.slice q.A14 q.n14 q.p14] rfl rfl rfl (by kernel_rfl) (by simp [Value.oneCell']) (four H30.out) (by simp only [List.length_cons,List.length_nil]; omega) ?_
            intro w31 h31
            have hylen : y.length = x.toNat := by rw [mapO_len _ _ _ HY.out,List.length_take]; omega
            have hxkl : xk.length = t.el.length * 15 := HR.out.rowLen
            have e1 : (x + 1).toNat = x.toNat + 1 := by omega
            have H31 : Hid (S w0 w31 (RowV 38 15 (.slice (some ⟨g1,0,none⟩) t.el.length p1) t.el.length (xk.take (x.toNat * 15) ++ ([.int .i64 q.k,.string q.n,.int .i64 q.c0,.int .i64 q.c1,.int .i64 q.c2,.bool q.c3,.bool q.c4,.slice q.A7 q.n7 q.p7,.bool q.e,.string q.fr,.slice q.A10 q.n10 q.p10,.slice q.A11 q.n11 q.p11,.slice q.A12 q.n12 q.p12,.slice q.A13 q.n13 q.p13,.slice q.A14 q.n14 q.p14] : List Value) ++ xk.drop (x.toNat * 15 + 15)) • (Vw w0 w0.heap.size (fun W => Reps (kTy.K W) 15 ((y ++ [t1]) ++ t.el.drop (x + 1).toNat) (xk.take (x.toNat * 15) ++ ([.int .i64 q.k,.string q.n,.int .i64 q.c0,.int .i64 q.c1,.int .i64 q.c2,.bool q.c3,.bool q.c4,.slice q.A7 q.n7 q.p7,.bool q.e,.string q.fr,.slice q.A10 q.n10 q.p10,.slice q.A11 q.n11 q.p11,.slice q.A12 q.n12 q.p12,.slice q.A13 q.n13 q.p13,.slice q.A14 q.n14 q.p14] : List Value) ++ xk.drop (x.toNat * 15 + 15))) • (MapV b (strM fm) • (Blk g (.cells #[.map (some b),.map ob] 59) • (Blk (g + 1) (.cells #[.int .i64 t.k,.string t.n,.int .i64 t.c.f0,.int .i64 t.c.f1,.int .i64 t.c.f2,.bool t.c.f3,.bool t.c.f4,.slice A8 t.c.f5.length c8,.bool t.e,.string t.fr,.slice A15 t.ns.length c15,.slice A16 t.mo.length c16,.slice A20 n20 c20,.slice A21 n21 c21,.slice (some ⟨g1,0,none⟩) t.el.length p1] 38) • (Vw w0 w0.heap.size P2 • (Blk (g + 2) (.cells #[.int .i64 0,.string ⟨#[]⟩,.int .i64 0,.int .i64 0,.int .i64 0,.bool false,.bool false,.slice none 0 0,.bool false,.string ⟨#[]⟩,.slice none 0 0,.slice none 0 0,.slice none 0 0,.slice none 0 0,.slice none 0 0] 38) • R)))))))) := Lib.hid (Vw.map (Vw.join (four h31.two.drop).three) (fun wv _ hp => by
             obtain ⟨h1,h2⟩ := hp
             have h3 := reps_put h2 (j := x.toNat) (by rw [List.length_append,List.length_drop]; omega) (h1 _ hq) rfl
             rw [set_next _ hylen HG.out, ← e1] at h3
             exact h3)).two
            have HY2 : Hid (mapO (typP (lookS fm) n) (t.el.take (x + 1).toNat) = some (y ++ [t1])) := Lib.hid (by rw [e1]; exact mapO_take HG.out HY.out hq)
            have HT2' : Hid ((xk.take (x.toNat * 15) ++ ([.int .i64 q.k,.string q.n,.int .i64 q.c0,.int .i64 q.c1,.int .i64 q.c2,.bool q.c3,.bool q.c4,.slice q.A7 q.n7 q.p7,.bool q.e,.string q.fr,.slice q.A10 q.n10 q.p10,.slice q.A11 q.n11 q.p11,.slice q.A12 q.n12 q.p12,.slice q.A13 q.n13 q.p13,.slice q.A14 q.n14 q.p14] : List Value) ++ xk.drop (x.toNat * 15 + 15)).drop ((x + 1).toNat * 15) = xs.drop ((x + 1).toNat * 15)) := Lib.hid (by
             rw [e1]
             exact set_behind (cs := [.int .i64 q.k,.string q.n,.int .i64 q.c0,.int .i64 q.c1,.int .i64 q.c2,.bool q.c3,.bool q.c4,.slice q.A7 q.n7 q.p7,.bool q.e,.string q.fr,.slice q.A10 q.n10 q.p10,.slice q.A11 q.n11 q.p11,.slice q.A12 q.n12 q.p12,.slice q.A13 q.n13 q.p13,.slice q.A14 q.n14 q.p14]) HXT.out (by rfl) (by omega))
            clear h31 k14 e1
            go_wp2
            exact ⟨⟨x + 1,_,_,by omega,by omega,by go_num,H31,HY2,HT2'⟩,by simp only [intOf]; omega⟩
          ·
           have hlt' : (x < (t.el.length : Int)) = False := eq_false hlt
           have e1 : t.el.take x.toNat = t.el := List.take_of_length_le (by omega)
           have e2 : t.el.drop x.toNat = [] := List.drop_of_length_le (by omega)
           have HY2 : Hid (mapO (typP (lookS fm) n) t.el = some y) := Lib.hid (by have := HY.out; rwa [e1] at this)
           have hylen : t.el.length = y.length := (mapO_len _ _ _ HY2.out).symm
           have h12 := HR.out
           rw [e2,List.append_nil] at h12
           have h33 := Vw.join (five (Vw.row (d := kTy) (by decide) hylen h12))
           have HE : Hid (typP (lookS fm) (n + 1) t = some ⟨t.k,t.n,t.c,t.e,t.fr,t.ns,t.mo,ps1,ad1,y⟩) := Lib.hid (by
            rw [HT2.out]
            unfold elsP
            rw [hq20,hq21,HY2.out]
            rfl)
           have HF : Hid (S w0 wr (Blk (g + 1) (.cells #[.int .i64 t.k,.string t.n,.int .i64 t.c.f0,.int .i64 t.c.f1,.int .i64 t.c.f2,.bool t.c.f3,.bool t.c.f4,.slice A8 t.c.f5.length c8,.bool t.e,.string t.fr,.slice A15 t.ns.length c15,.slice A16 t.mo.length c16,.slice A20 n20 c20,.slice A21 n21 c21,.slice B1 t.el.length p1] 38) • (Vw w0 w0.heap.size (fun W => ∀ r,typP (lookS fm) (n + 1) t = some r → kTy.K W r [.int .i64 t.k,.string t.n,.int .i64 t.c.f0,.int .i64 t.c.f1,.int .i64 t.c.f2,.bool t.c.f3,.bool t.c.f4,.slice A8 t.c.f5.length c8,.bool t.e,.string t.fr,.slice A15 t.ns.length c15,.slice A16 t.mo.length c16,.slice A20 n20 c20,.slice A21 n21 c21,.slice B1 t.el.length p1]) • (Blk (g + 2) (.cells #[.int .i64 0,.string ⟨#[]⟩,.int .i64 0,.int .i64 0,.int .i64 0,.bool false,.bool false,.slice none 0 0,.bool false,.string ⟨#[]⟩,.slice none 0 0,.slice none 0 0,.slice none 0 0,.slice none 0 0,.slice none 0 0] 38) • (Blk g (.cells #[.map (some b),.map ob] 59) • (MapV b (strM fm) • R)))))) := Lib.hid (five (four (five (St.three (St.two (Vw.map h33 (fun wv _ hp r hr => by
            obtain ⟨hp2,A,c,e,hl, -,hC⟩ := hp
            simp only [Value.slice.injEq] at e
            obtain ⟨rfl, -,rfl⟩ := e
            rw [HE.out] at hr
            cases hr
            obtain ⟨hp1,hA⟩ := HP21.out _ hp2
            obtain ⟨hp0,hPs⟩ := HP20.out _ hp1
            obtain ⟨hc,hn,hm⟩ := HP.out _ hp0
            obtain ⟨rfl,lps,gps⟩ := hPs _ hq20
            obtain ⟨rfl,lad,gad⟩ := hA _ hq21
            have := kTy_mk wv ⟨t.k,t.n,t.c,t.e,t.fr,t.ns,t.mo,ps1,ad1,y⟩ hc.1 hc.2 hn.1 hn.2 hm.1 hm.2 lps gps lad gad (by rw [← hylen]; exact hp1'.out) (by exact hC)
            rw [← hylen] at this
            exact this)))))))
           clear h12 h33 e1 e2 hylen
           go_upto_region 33 with fail
           go_wp2_with (refine held_load 38 _ rfl ?_)
           refine ⟨?_⟩
           refine wpList_load_row rfl 38 _ rfl (g + 1) rfl _ _ _ _ HF.out.block Tryz.underlying38 rfl (by kernel_rfl) ?_
           go_wp2_with (refine held_store _ _ _ rfl ?_)
           refine ⟨?_⟩
           refine wpList_store_off rfl rfl [.int .i64 t.k,.string t.n,.int .i64 t.c.f0,.int .i64 t.c.f1,.int .i64 t.c.f2,.bool t.c.f3,.bool t.c.f4,.slice A8 t.c.f5.length c8,.bool t.e,.string t.fr,.slice A15 t.ns.length c15,.slice A16 t.mo.length c16,.slice A20 n20 c20,.slice A21 n21 c21,.slice B1 t.el.length p1] rfl rfl rfl (by kernel_rfl) (by simp [Value.oneCell']) HF.out.three (by simp) (new := #[.int .i64 t.k,.string t.n,.int .i64 t.c.f0,.int .i64 t.c.f1,.int .i64 t.c.f2,.bool t.c.f3,.bool t.c.f4,.slice A8 t.c.f5.length c8,.bool t.e,.string t.fr,.slice A15 t.ns.length c15,.slice A16 t.mo.length c16,.slice A20 n20 c20,.slice A21 n21 c21,.slice B1 t.el.length p1]) rfl ?_
           intro wz hz
           have HZ := Lib.hid hz
           clear hz
           go_wp2
           exact bodyPost_ret (v := .tuple #[.agg #[.int .i64 t.k,.string t.n,.int .i64 t.c.f0,.int .i64 t.c.f1,.int .i64 t.c.f2,.bool t.c.f3,.bool t.c.f4,.slice A8 t.c.f5.length c8,.bool t.e,.string t.fr,.slice A15 t.ns.length c15,.slice A16 t.mo.length c16,.slice A20 n20 c20,.slice A21 n21 c21,.slice B1 t.el.length p1],.bool true]) (results_row_tmp Tryz.results16 _ _ (g + 2) _ _ (0,0) _ rfl HZ.out.block Tryz.underlying38 rfl (by kernel_rfl) rfl) rfl ⟨⟨t.k,t.n,t.c.f0,t.c.f1,t.c.f2,t.c.f3,t.c.f4,A8,t.c.f5.length,c8,t.e,t.fr,A15,t.ns.length,c15,A16,t.mo.length,c16,A20,n20,c20,A21,n21,c21,B1,t.el.length,p1⟩,by rw [HE.out]; rfl,HZ.out.drop.drop.drop2⟩
theorem typ_at (b : Nat) (ob : Option Nat) (fm : List (List UInt8 × ByteArray)) (n : Nat) : TypAt w0 b ob fm n := by
 induction n with
 | zero => intro W Q t cs _ _ _ hs; cases hs
 | succ n ih =>
  intro W Q t cs h hK ho hs
  by_cases hk : t.k = 11
  ·exact typ_ref b ob fm n t cs h hK ho hk
  ·exact typ_other b ob fm n ih t cs h hK ho hs hk
end Go.Proofs.YtbjddomocggjmaaGreat.Sc
end
section
namespace Go.Proofs.YtbjddomocggjmaaGreat.Sc
open Go.RowKit Go.ChangeShapes Go.WideShapes Go.Proofs.YtbjddomocggjmaaGreat.Sep
open Go.Proofs.YtbjddomocggjmaaGreatW.PrintWords
variable {B : Nat} {w0 w : World} {R : HP}
open Go.Maps Go.ChangeMaps Go.MapKept
set_option maxHeartbeats 16000000 in
set_option maxRecDepth 100000 in
theorem resolve_calls (A : Option Addr) (c : Nat) (l : List Md) (h : S w0 w R) (hC : kMd.C w0 A l.length l) (ho : ∀ m ∈ l,oMd m) :
  Calls Tryz.prog 6 #[.slice A l.length c] w fun e w' => ∃ A' n' c' xk,e = .returned (.tuple #[.slice A' n' c',.int .i64 (resP l).1]) ∧ n' = (resP l).2.length ∧
   S w0 w' (RowV 46 18 (.slice A' n' c') n' xk • (Vw w0 w0.heap.size (fun W => Reps (kEn.K W) 18 (resP l).2 xk) • R)) := by
 have eg : ∀ args w,(callFunc 12 args).run Tryz.prog w = .ok (.enter 12 args) w := enters_of Tryz.func12 (by kernel_rfl) rfl
 have hl' : l.length ≤ 9223372036854775807 := hC.2.1
 have HA := Lib.hid (And.intro hC ho)
 have H := Lib.hid h
 have HM := Lib.hid (contains_mds _ _ eg _ A c l hC h (bad_mod_tells l ho))
 clear h hC ho eg
 by_cases q0 : 256 < l.length
 ·have p0 : decide ((256 : Int) < (l.length : Int)) = true := decide_eq_true (by omega)
  have HQ := Lib.hid (show badB l = true by unfold badB; rw [decide_eq_true q0]; rfl)
  clear q0
  go_enter Tryz.func6,Tryz.ntmps6
  have HZ : Hid (resP l = (1,[])) := Lib.hid (res_bad HQ.out)
  go_wp2
  refine bodyPost_ret (v := .tuple #[.slice none 0 0,.int .i64 1]) (by simp [results,Tryz.results6,go_sem]) rfl ?_
  exact ⟨none,0,0,[],by rw [HZ.out],by rw [HZ.out]; rfl,(Vw.base H.out (fun wv _ => by rw [HZ.out]; exact Reps.none _ _)).nil _ _⟩
 have p0 : decide ((256 : Int) < (l.length : Int)) = false := decide_eq_false (by omega)
 cases q1 : l.any fun m => !mdB m with
 | true =>
  have HQ := Lib.hid (show badB l = true by unfold badB; rw [q1,Bool.or_true])
  rw [q1] at HM
  clear q0 q1
  go_enter Tryz.func6,Tryz.ntmps6
  go_wp2_with fail
  refine HM.out.mono ?_
  rintro e w1 ⟨rfl,h1⟩
  have H1 := Lib.hid h1
  clear h1
  have HZ : Hid (resP l = (1,[])) := Lib.hid (res_bad HQ.out)
  go_wp2
  refine bodyPost_ret (v := .tuple #[.slice none 0 0,.int .i64 1]) (by simp [results,Tryz.results6,go_sem]) rfl ?_
  exact ⟨none,0,0,[],by rw [HZ.out],by rw [HZ.out]; rfl,(Vw.base H1.out (fun wv _ => by rw [HZ.out]; exact Reps.none _ _)).nil _ _⟩
 | false =>
 have HN : Hid (badB l = false) := Lib.hid (by unfold badB; rw [q1,decide_eq_false q0]; rfl)
 have HB := Lib.hid (bad_false.1 HN.out)
 rw [q1] at HM
 clear q0 q1
 have hmm := @run_makeMap Tryz.prog
 go_enter Tryz.func6,Tryz.ntmps6
 go_wp2_with fail
 refine HM.out.mono ?_
 rintro e w1 ⟨rfl,h1⟩
 generalize hrb : w1.heap.size = rb
 have hgg : ∃ g,g = rb + 1 := ⟨_,rfl⟩
 obtain ⟨g,hgg⟩ := hgg
 have H1 := Lib.hid (alloc_at (n := g) (mv_made (n := rb) h1 hrb.symm) (.cells #[.map none] 55) (by simp [hrb,hgg]))
 clear h1 H
 go_wp2_with (refine held_store _ _ _ rfl ?_)
 refine ⟨?_⟩
 subst hgg
 refine wpList_store_off rfl rfl [.map (some rb)] rfl rfl rfl (by kernel_rfl) (by simp [Value.oneCell']) H1.out (by simp) (new := #[.map (some rb)]) rfl ?_
 intro w5 h5
 generalize rb + 1 = g at h5 ⊢
 have H5 : Hid (S w0 w5 (Blk g (.cells #[.map (some rb)] 55) • (MapV rb (ofM (l.take (0 : Int).toNat) []) • (MapsV (fullsV (l.take (0 : Int).toNat) []) • (MapsV (ownsV (l.take (0 : Int).toNat) []) • R))))) := Lib.hid (four (four h5.pad.swap.pad.swap))
 clear h5 H1 hmm
 go_wp2
 go_loopw [29] (fun v wr => ∃ (x : Int) (bs : List (Nat × Nat)),0 ≤ x ∧ x ≤ l.length ∧ v = .int .i64 x ∧ bs.length = x.toNat ∧ Hid (S w0 wr (Blk g (.cells #[.map (some rb)] 55) • (MapV rb (ofM (l.take x.toNat) bs) • (MapsV (fullsV (l.take x.toNat) bs) • (MapsV (ownsV (l.take x.toNat) bs) • R))))) ∧ Hid ((kys (mdNames (l.take x.toNat))).Nodup ∧ ∀ m ∈ l.take x.toNat,onceB (dfNames m) = true)) (fun v _ => l.length - (intOf v).toNat)
 case atStart => exact ⟨0,[],Int.le_refl _,by omega,rfl,rfl,H5,Lib.hid ⟨by simp [kys,mdNames],by simp⟩⟩
 case round =>
  clear H5
  obtain ⟨x,bs,hx0,hx1,rfl,hbs,HR,HT⟩ := hrel
  by_cases hlt : x < l.length
  ·obtain ⟨ad,cs,eA,hcl0,hK,hcell0⟩ := Kd.C_get HA.out.1 zMd x hx0 hlt
   cases eA
   have hcell : ∀ (j : Nat) (u : Value),cs[j]? = some u → w0.cell? (ad.add (x.toNat * 4 + j)) = some u := hcell0
   have HG := Lib.hid (getD_mem l zMd x hx0 hlt)
   generalize l.getD x.toNat zMd = r at *
   obtain ⟨A2,c2,A3,c3,rfl,l2,g2,l3,g3⟩ := kMd_open (show kMd.K w0 r cs from hK)
   have hrm := List.mem_of_getElem? HG.out
   have HE := Lib.hid (And.intro g2 (And.intro g3 (And.intro (HA.out.2 r hrm) (mdB_has (HB.out.2 r hrm)))))
   have HCl := Lib.hid hcell
   have hsn : r.n.size ≤ maxLen := by have := (HA.out.2 r hrm).1; simp only [oS,M] at this; simp only [maxLen]; omega
   have p126 := eq_true hx0
   have q126 : (x < (l.length : Int)) = True := eq_true hlt
   have e1 : (x + 1).toNat = x.toNat + 1 := by omega
   clear hcell hcell0 hcl0 hK l2 l3 g2 g3 hrm
   go_wp2_with (refine held_load 44 _ rfl ?_)
   refine ⟨?_⟩
   refine wpList_load_cells rfl 44 _ rfl _ rfl [.string r.n,.bool r.au,.slice A2 r.im.length c2,.slice A3 r.df.length c3] (elem_cells HR.out.below HCl.out) _ Tryz.underlying44 rfl (by kernel_rfl) ?_
   go_wp2_with (refine held_store _ _ _ rfl ?_)
   refine ⟨?_⟩
   refine wpList_store_off rfl rfl [.string r.n,.bool r.au,.slice A2 r.im.length c2,.slice A3 r.df.length c3] rfl rfl rfl (by kernel_rfl) (by simp [Value.oneCell']) (HR.out.alloc _) (by simp) (new := #[.string r.n,.bool r.au,.slice A2 r.im.length c2,.slice A3 r.df.length c3]) rfl ?_
   intro w6 h6
   generalize wr.heap.size = q at h6 ⊢
   have H6 := Lib.hid h6
   have d0 := h6.cell 0 rfl
   have d1 := h6.cell 1 rfl
   have d2 := h6.cell 2 rfl
   have d3 := h6.cell 3 rfl
   clear h6
   go_wp2_with fail
   refine (owned_calls r A2 c2 A3 c3 H6.out HE.out.2.1 HE.out.2.2.1 HE.out.2.2.2.2.1).mono ?_
   rintro e w7 ⟨b,bo,rfl,h7⟩
   have H7 := Lib.hid h7
   clear h7 d0 d1 d2 d3
   go_wp2_with (refine held_store _ _ _ rfl ?_)
   refine ⟨?_⟩
   refine wpList_store_off rfl rfl [.map (some b),.map (some bo)] rfl rfl rfl (by kernel_rfl) (by simp [Value.oneCell']) (H7.out.alloc _) (by simp) (new := #[.map (some b),.map (some bo)]) rfl ?_
   intro w8 h8
   generalize w7.heap.size = q2 at h8 ⊢
   have H8 := Lib.hid h8
   clear h8
   cases hok : onceB (dfNames r) with
   | false =>
    have H9 : Hid (S w0 w8 (Blk q2 (.cells #[.map (some b),.map (some bo)] 59) • (Blk q (.cells #[.string r.n,.bool r.au,.slice A2 r.im.length c2,.slice A3 r.df.length c3] 44) • (Blk g (.cells #[.map (some rb)] 55) • (MapV rb (ofM (l.take x.toNat) bs) • (MapsV (fullsV (l.take x.toNat) bs) • (MapsV (ownsV (l.take x.toNat) bs) • R))))))) := Lib.hid (by have := H8.out; rw [hok] at this; exact this)
    have d0 := H9.out.two.cell 0 rfl
    have r0 := H9.out.three.cell 0 rfl
    have lk := mv_lookOk Tryz.underlying53 (zero_names w8) (four H9.out) r.n hsn
    have HD := Lib.hid (dup_mem (List.mem_of_getElem? HG.out) hok)
    rcases ofM_look (l := l.take x.toNat) (bs := bs) (by rw [List.length_take]; omega) r.n.data.toList with ⟨h1,h2⟩ | ⟨j,mj,bj,h1,h2,h3,h4⟩
    ·rw [h1,Option.getD_none,Option.isSome_none] at lk
     clear h1 h2
     go_wp2_with (refine held_store _ _ _ rfl ?_)
     refine ⟨?_⟩
     refine wpList_store_off rfl rfl [.map none,.map none] rfl rfl rfl (by kernel_rfl) (by simp [Value.oneCell']) (H9.out.alloc _) (by simp) (new := #[.map none,.map none]) rfl ?_
     intro w10 h10
     have H10 := Lib.hid h10.drop.drop.drop.drop.drop.drop.drop
     clear h10 lk d0 r0
     have HZ : Hid (resP l = (7,[])) := Lib.hid (res_dup2 HN.out HD.out)
     go_wp2
     refine bodyPost_ret (v := .tuple #[.slice none 0 0,.int .i64 7]) (by simp [results,Tryz.results6,go_sem]) rfl ?_
     exact ⟨none,0,0,[],by rw [HZ.out],by rw [HZ.out]; rfl,(Vw.base H10.out (fun wv _ => by rw [HZ.out]; exact Reps.none _ _)).nil _ _⟩
    ·rw [h4,Option.getD_some,Option.isSome_some] at lk
     clear h1 h2 h3 h4
     go_wp2_with (refine held_store _ _ _ rfl ?_)
     refine ⟨?_⟩
     refine wpList_store_off rfl rfl [.map (some bj.1),.map (some bj.2)] rfl rfl rfl (by kernel_rfl) (by simp [Value.oneCell']) (H9.out.alloc _) (by simp) (new := #[.map (some bj.1),.map (some bj.2)]) rfl ?_
     intro w10 h10
     have H10 := Lib.hid h10.drop.drop.drop.drop.drop.drop.drop
     clear h10 lk d0 r0
     have HZ : Hid (resP l = (7,[])) := Lib.hid (res_dup2 HN.out HD.out)
     go_wp2
     refine bodyPost_ret (v := .tuple #[.slice none 0 0,.int .i64 7]) (by simp [results,Tryz.results6,go_sem]) rfl ?_
     exact ⟨none,0,0,[],by rw [HZ.out],by rw [HZ.out]; rfl,(Vw.base H10.out (fun wv _ => by rw [HZ.out]; exact Reps.none _ _)).nil _ _⟩
   | true =>
    have H9 : Hid (S w0 w8 (Blk q2 (.cells #[.map (some b),.map (some bo)] 59) • (Blk q (.cells #[.string r.n,.bool r.au,.slice A2 r.im.length c2,.slice A3 r.df.length c3] 44) • (Blk g (.cells #[.map (some rb)] 55) • (MapV rb (ofM (l.take x.toNat) bs) • (MapV b (strM (ownP r)) • (MapV bo (setM (kys (dfNames r))) • (MapsV (fullsV (l.take x.toNat) bs) • (MapsV (ownsV (l.take x.toNat) bs) • R))))))))) := Lib.hid (by
     have h := H8.out
     rw [hok] at h
     have h1 : S w0 w8 (Blk q2 (.cells #[.map (some b),.map (some bo)] 59) • (MapV b (strM (ownP r)) • (MapV bo (setM (kys (dfNames r))) • (Blk q (.cells #[.string r.n,.bool r.au,.slice A2 r.im.length c2,.slice A3 r.df.length c3] 44) • (Blk g (.cells #[.map (some rb)] 55) • (MapV rb (ofM (l.take x.toNat) bs) • (MapsV (fullsV (l.take x.toNat) bs) • (MapsV (ownsV (l.take x.toNat) bs) • R)))))))) := h
     exact four (six (six (six h1))))
    have d0 := H9.out.two.cell 0 rfl
    have r0 := H9.out.three.cell 0 rfl
    have lk := mv_lookOk Tryz.underlying53 (zero_names w8) (four H9.out) r.n hsn
    rcases ofM_look (l := l.take x.toNat) (bs := bs) (by rw [List.length_take]; omega) r.n.data.toList with ⟨h1,h2⟩ | ⟨j,mj,bj,h1,h2,h3,h4⟩
    ·rw [h1,Option.getD_none,Option.isSome_none] at lk
     have HT2 : Hid ((kys (mdNames (l.take (x + 1).toNat))).Nodup ∧ ∀ m ∈ l.take (x + 1).toNat,onceB (dfNames m) = true) := Lib.hid (by
      rw [e1,List.take_add_one,HG.out]
      refine ⟨?_,fun m hm => ?_⟩
      ·rw [show mdNames (l.take x.toNat ++ (some r).toList) = mdNames (l.take x.toNat) ++ [r.n] by simp [mdNames],kys_snoc,List.nodup_append]
       refine ⟨HT.out.1,by simp,fun a ha bb hb => ?_⟩
       rw [List.mem_singleton.1 hb]
       rintro rfl
       obtain ⟨s,hs,e⟩ := List.mem_map.1 ha
       obtain ⟨m,hm,rfl⟩ := List.mem_map.1 hs
       exact h2 m hm e
      ·rcases List.mem_append.1 hm with hm | hm
       ·exact HT.out.2 m hm
       ·rw [show m = r by simpa using hm]
        exact hok)
     clear h1 h2
     go_wp2_with (refine held_store _ _ _ rfl ?_)
     refine ⟨?_⟩
     refine wpList_store_off rfl rfl [.map none,.map none] rfl rfl rfl (by kernel_rfl) (by simp [Value.oneCell']) (H9.out.alloc _) (by simp) (new := #[.map none,.map none]) rfl ?_
     intro w10 h10
     have H10 := Lib.hid h10.drop
     clear h10 lk d0 r0 H9
     have r0 := H10.out.three.cell 0 rfl
     have d0 := H10.out.two.cell 0 rfl
     have f0 := H10.out.cell 0 rfl
     have f1 := H10.out.cell 1 rfl
     have HS2 := Lib.hid hsn
     have HB2 : Hid ((ofM (l.take x.toNat) bs).length < maxLen) := Lib.hid (by
      have := HB.out.1
      unfold ofM
      rw [List.length_zipWith,List.length_take]
      simp only [maxLen]
      omega)
     go_wp2_with (at_mapUpdate; refine HeldT.out ?_)
     refine ⟨?_⟩
     refine wpList_putV Tryz.underlying53 rfl _ _ _ rfl rfl _ rfl (.agg #[.map (some b),.map (some bo)]) rfl (four H10.out) HS2.out HB2.out ?_
     intro w11 h11
     have H11 : Hid (S w0 w11 (Blk g (.cells #[.map (some rb)] 55) • (MapV rb (ofM (l.take (x + 1).toNat) (bs ++ [(b,bo)])) • (MapsV (fullsV (l.take (x + 1).toNat) (bs ++ [(b,bo)])) • (MapsV (ownsV (l.take (x + 1).toNat) (bs ++ [(b,bo)])) • R))))) := Lib.hid (by
      have e2 : ofM (l.take (x + 1).toNat) (bs ++ [(b,bo)]) = ofM (l.take x.toNat) bs ++ [(r.n.data.toList,.agg #[.map (some b),.map (some bo)])] := zip_next _ (b,bo) hx0 hbs HG.out
      have e3 : fullsV (l.take (x + 1).toNat) (bs ++ [(b,bo)]) = fullsV (l.take x.toNat) bs ++ [(b,strM (ownP r))] := zip_next _ (b,bo) hx0 hbs HG.out
      have e4 : ownsV (l.take (x + 1).toNat) (bs ++ [(b,bo)]) = ownsV (l.take x.toNat) bs ++ [(bo,setM (kys (dfNames r)))] := zip_next _ (b,bo) hx0 hbs HG.out
      rw [e2,e3,e4]
      exact four (St.three (maps_add (five (five (maps_add (five (six h11.two.drop.two.drop))))))))
     have hbs2 : (bs ++ [(b,bo)]).length = (x + 1).toNat := by rw [List.length_append,List.length_singleton]; omega
     clear h11 r0 d0 f0 f1 e1
     go_wp2
     exact ⟨⟨x + 1,_,by omega,by omega,by go_num,hbs2,H11,HT2⟩,by simp only [intOf]; omega⟩
    ·rw [h4,Option.getD_some,Option.isSome_some] at lk
     have HD := Lib.hid (dup_once (once_take (l := mdNames l) (j := x.toNat) (s := r.n) (by have := take_next (fun m : Md => m.n) hx0 HG.out; rwa [e1] at this) (by
      refine List.contains_iff_mem.2 (List.mem_map.2 ⟨mj.n, ?_,h3⟩)
      unfold mdNames
      rw [← List.map_take]
      exact List.mem_map.2 ⟨mj,List.mem_of_getElem? h1,rfl⟩)))
     clear h1 h2 h3 h4
     go_wp2_with (refine held_store _ _ _ rfl ?_)
     refine ⟨?_⟩
     refine wpList_store_off rfl rfl [.map (some bj.1),.map (some bj.2)] rfl rfl rfl (by kernel_rfl) (by simp [Value.oneCell']) (H9.out.alloc _) (by simp) (new := #[.map (some bj.1),.map (some bj.2)]) rfl ?_
     intro w10 h10
     have H10 := Lib.hid h10.drop.drop.drop.drop.drop.drop.drop.drop.drop
     clear h10 lk d0 r0
     have HZ : Hid (resP l = (7,[])) := Lib.hid (res_dup2 HN.out HD.out)
     go_wp2
     refine bodyPost_ret (v := .tuple #[.slice none 0 0,.int .i64 7]) (by simp [results,Tryz.results6,go_sem]) rfl ?_
     exact ⟨none,0,0,[],by rw [HZ.out],by rw [HZ.out]; rfl,(Vw.base H10.out (fun wv _ => by rw [HZ.out]; exact Reps.none _ _)).nil _ _⟩
  ·have hlt' : (x < (l.length : Int)) = False := eq_false hlt
   have e1 : l.take x.toNat = l := List.take_of_length_le (by omega)
   have HBL : Hid (bs.length = l.length) := Lib.hid (by omega)
   have HU : Hid (onceB (mdNames l) = true ∧ dupB l = false) := Lib.hid (by
    have h := HT.out
    rw [e1] at h
    have h1 : onceB (mdNames l) = true := decide_eq_true h.1
    exact ⟨h1,dup_false.2 ⟨h1,h.2⟩⟩)
   have H2 : Hid (S w0 wr (MapV rb (ofM l bs) • (MapsV (ownsV l bs) • (MapsV ([] ++ fullsV (l.drop (0 : Int).toNat) (bs.drop (0 : Int).toNat)) • (Blk g (.cells #[.map (some rb)] 55) • (RowV 46 18 (.slice none 0 0) ([] : List (List En)).flatten.length [] • (Vw w0 w0.heap.size (fun W => Reps (kEn.K W) 18 ([] : List (List En)).flatten []) • R))))))) := Lib.hid (by
    have h := HR.out
    rw [e1] at h
    exact six (six (five (St.three (St.two (Vw.base (h.nil _ _) (fun wv _ => Reps.none _ _)))))))
   clear HR HT e1 hbs hx0 hx1 hlt
   go_wp2
   go_loopw [11,59] (fun vo v wr => ∃ (va : Value) (x : Int) (yss : List (List En)) (xk : List Value) (dn : List (Nat × Kv)),va = vo ∧ 0 ≤ x ∧ x ≤ l.length ∧ v = .int .i64 x ∧ dn.length = x.toNat ∧ Hid (S w0 wr (MapV rb (ofM l bs) • (MapsV (ownsV l bs) • (MapsV (dn ++ fullsV (l.drop x.toNat) (bs.drop x.toNat)) • (Blk g (.cells #[.map (some rb)] 55) • (RowV 46 18 va yss.flatten.length xk • (Vw w0 w0.heap.size (fun W => Reps (kEn.K W) 18 yss.flatten xk) • R))))))) ∧ Hid (mapO (modP (ownHas l)) (l.take x.toNat) = some yss ∧ yss.flatten.length ≤ 256 * x.toNat)) (fun _ v _ => l.length - (intOf v).toNat)
   case atStart => exact ⟨_,0,[],[],[],rfl,Int.le_refl _,by omega,rfl,rfl,H2,Lib.hid ⟨rfl,by simp⟩⟩
   case round =>
    clear H2
    obtain ⟨va,x,yss,xk,dn,rfl,hx0,hx1,rfl,hdn,HR,HT⟩ := hrel
    by_cases hlt : x < l.length
    ·obtain ⟨ad,cs,eA,hcl0,hK,hcell0⟩ := Kd.C_get HA.out.1 zMd x hx0 hlt
     cases eA
     have hcell : ∀ (j : Nat) (u : Value),cs[j]? = some u → w0.cell? (ad.add (x.toNat * 4 + j)) = some u := hcell0
     have HG := Lib.hid (getD_mem l zMd x hx0 hlt)
     generalize l.getD x.toNat zMd = r at *
     obtain ⟨A2,c2,A3,c3,rfl,l2,g2,l3,g3⟩ := kMd_open (show kMd.K w0 r cs from hK)
     have hrm := List.mem_of_getElem? HG.out
     have HE := Lib.hid (And.intro g2 (And.intro g3 (And.intro (HA.out.2 r hrm) (mdB_has (HB.out.2 r hrm)))))
     have HCl := Lib.hid hcell
     have hsn : r.n.size ≤ maxLen := by have := (HA.out.2 r hrm).1; simp only [oS,M] at this; simp only [maxLen]; omega
     have p126 := eq_true hx0
     have q126 : (x < (l.length : Int)) = True := eq_true hlt
     have e1 : (x + 1).toNat = x.toNat + 1 := by omega
     clear hcell hcell0 hcl0 hK l2 l3 g2 g3 hrm
     obtain ⟨b,hb⟩ : ∃ b,bs[x.toNat]? = some b := ⟨_,List.getElem?_eq_getElem (by have := HBL.out; omega)⟩
     have HL : Hid (lookK (ofM l bs) r.n.data.toList = some (.agg #[.map (some b.1),.map (some b.2)])) := Lib.hid (by
      rcases ofM_look HBL.out r.n.data.toList with ⟨-,h1⟩ | ⟨j,m',b',h1,h2,h3,h4⟩
      ·exact absurd rfl (h1 r (List.mem_of_getElem? HG.out))
      ·have := names_inj HU.out.1 h1 HG.out h3
       subst this
       rw [hb] at h2
       cases h2
       exact h4)
     have HSn := Lib.hid hsn
     have hl3 : r.df.length ≤ 9223372036854775807 := by have := HE.out.2.2.2.2.1; omega
     go_wp2_with (refine held_load 44 _ rfl ?_)
     refine ⟨?_⟩
     refine wpList_load_cells rfl 44 _ rfl _ rfl [.string r.n,.bool r.au,.slice A2 r.im.length c2,.slice A3 r.df.length c3] (elem_cells HR.out.below HCl.out) _ Tryz.underlying44 rfl (by kernel_rfl) ?_
     go_wp2_with (refine held_store _ _ _ rfl ?_)
     refine ⟨?_⟩
     refine wpList_store_off rfl rfl [.string r.n,.bool r.au,.slice A2 r.im.length c2,.slice A3 r.df.length c3] rfl rfl rfl (by kernel_rfl) (by simp [Value.oneCell']) (HR.out.alloc _) (by simp) (new := #[.string r.n,.bool r.au,.slice A2 r.im.length c2,.slice A3 r.df.length c3]) rfl ?_
     intro w6 h6
     generalize wr.heap.size = q at h6 ⊢
     have H6 := Lib.hid (St.two (five h6))
     have H7 := Lib.hid (five (St.two (five (maps_out (fulls_at hdn HG.out hb) (four h6)))))
     have r0 := (five h6).cell 0 rfl
     have d0 := h6.cell 0 rfl
     have d1 := h6.cell 1 rfl
     have d2 := h6.cell 2 rfl
     have d3 := h6.cell 3 rfl
     clear h6 H6
     go_wp2_with fail
     refine (imports_calls HBL.out HU.out.1 rb HG.out hb (ownP r) (by have := HE.out.2.2.2.2.1; unfold ownP; rw [List.length_map]; omega) A2 c2 A3 c3 H7.out HE.out.1 HE.out.2.2.1 ⟨HE.out.2.2.2.1,HE.out.2.2.2.2.2.1⟩).mono ?_
     rintro e w17 ⟨rfl,fm,hfm,h17⟩
     have H17 := Lib.hid h17
     clear h17 H7 r0 d0 d1 d2 d3
     cases hi : impI (ownHas l) (ownP r) r.im with
     | none =>
      have HZ0 := Lib.hid (res_stuck HN.out HU.out.2 (List.mem_of_getElem? HG.out) (by unfold modP; rw [hi]; rfl))
      clear hfm
      have HZ : Hid (resP l = (7,[])) := Lib.hid (HZ0.out)
      go_wp2
      refine bodyPost_ret (v := .tuple #[.slice none 0 0,.int .i64 7]) (by simp [results,Tryz.results6,go_sem]) rfl ?_
      exact ⟨none,0,0,[],by rw [HZ.out],by rw [HZ.out]; rfl,(Vw.base H17.out.drop.drop.drop.drop.drop.drop.drop.drop (fun wv _ => by rw [HZ.out]; exact Reps.none _ _)).nil _ _⟩
     | some fm2 =>
      obtain rfl := hfm fm2 hi
      have d3 := (five H17.out).cell 3 rfl
      have H18 : Hid (S w0 w17 (MapV b.1 (strM fm) • (MapV rb (ofM l bs) • (Blk q (.cells #[.string r.n,.bool r.au,.slice A2 r.im.length c2,.slice A3 r.df.length c3] 44) • (Blk g (.cells #[.map (some rb)] 55) • (RowV 46 18 va (yss.flatten.length + ([] : List En).length) xk • (Vw w0 w0.heap.size (fun W => Reps (kEn.K W) 18 (yss.flatten ++ []) xk) • (MapsV (ownsV l bs) • (MapsV ((dn ++ fullsV (l.drop x.toNat) (bs.drop x.toNat)).eraseIdx x.toNat) • R))))))))) := Lib.hid (by
       rw [List.append_nil]
       exact six (five (eight (eight (eight (eight H17.out))))))
      clear H17 hfm
      go_wp2
      go_loopw [11,70] (fun vo v wr => ∃ (va : Value) (y : Int) (ys : List En) (xj : List Value),va = vo ∧ 0 ≤ y ∧ y ≤ r.df.length ∧ v = .int .i64 y ∧ Hid (S w0 wr (MapV b.1 (strM fm) • (MapV rb (ofM l bs) • (Blk q (.cells #[.string r.n,.bool r.au,.slice A2 r.im.length c2,.slice A3 r.df.length c3] 44) • (Blk g (.cells #[.map (some rb)] 55) • (RowV 46 18 va (yss.flatten.length + ys.length) xj • (Vw w0 w0.heap.size (fun W => Reps (kEn.K W) 18 (yss.flatten ++ ys) xj) • (MapsV (ownsV l bs) • (MapsV ((dn ++ fullsV (l.drop x.toNat) (bs.drop x.toNat)).eraseIdx x.toNat) • R))))))))) ∧ Hid (mapO (enOf (lookS fm) r) (r.df.take y.toNat) = some ys ∧ yss.flatten.length + ys.length ≤ 256 * x.toNat + y.toNat)) (fun _ v _ => r.df.length - (intOf v).toNat)
      case atStart => exact ⟨_,0,[],xk,rfl,Int.le_refl _,by omega,rfl,H18,Lib.hid ⟨rfl,by have := HT.out.2; simp only [List.length_nil]; omega⟩⟩
      case round =>
       clear H18 d3 HR
       obtain ⟨va,y,ys,xj,rfl,hy0,hy1,rfl,HS,HY⟩ := hrel
       have HYb : Hid (256 * x.toNat + y.toNat ≤ 70000) := Lib.hid (by have := HB.out.1; have := HE.out.2.2.2.2.1; omega)
       by_cases hly : y < r.df.length
       ·obtain ⟨ad3,cs,eA,hcl0,hK,hcell0⟩ := Kd.C_get HE.out.2.1 zDf y hy0 hly
        cases eA
        have hcell : ∀ (j : Nat) (u : Value),cs[j]? = some u → w0.cell? (ad3.add (y.toNat * 16 + j)) = some u := hcell0
        have HGd := Lib.hid (getD_mem r.df zDf y hy0 hly)
        generalize r.df.getD y.toNat zDf = d at *
        obtain ⟨ts,hD⟩ := df_cells hK
        have HDc := Lib.hid hD
        have hdm := List.mem_of_getElem? HGd.out
        have HOd := Lib.hid (And.intro (HE.out.2.2.1.2.2.2 d hdm).2 (HE.out.2.2.2.2.2.2 d hdm))
        have HCd := Lib.hid hcell
        have p127 := eq_true hy0
        have q127 : (y < (r.df.length : Int)) = True := eq_true hly
        have e2 : (y + 1).toNat = y.toNat + 1 := by omega
        clear hcell hcell0 hcl0 hK hD hdm
        go_wp2_with (refine held_load 40 _ rfl ?_)
        refine ⟨?_⟩
        refine wpList_load_cells rfl 40 _ rfl _ rfl cs (elem_cells HS.out.below HCd.out) _ Tryz.underlying40 rfl (by rw [HDc.out.len]; kernel_rfl) ?_
        go_wp2_with (refine held_store _ _ _ rfl ?_)
        refine ⟨?_⟩
        refine wpList_store_off rfl rfl cs rfl rfl rfl (by rw [HDc.out.len]; kernel_rfl) HDc.out.one (HS.out.alloc _) (by rw [HDc.out.len]; simp) (new := cs.toArray) (fill_all (by rw [HDc.out.len]; rfl)) ?_
        intro w21 h21
        generalize wr.heap.size = q3 at h21 ⊢
        have H21 := Lib.hid h21
        have r0 := (five h21).cell 0 rfl
        have d0 := (four h21).cell 0 rfl
        have lk := mv_look Tryz.underlying53 (zero_names w21) h21.three r.n HSn.out
        rw [HL.out,Option.getD_some] at lk
        clear h21
        go_wp2_with (refine held_load 38 _ rfl ?_)
        refine ⟨?_⟩
        refine wpList_load_cells rfl 38 _ rfl ⟨q3,1,none⟩ rfl ts (fun j v hv => by rw [WideShapes.add_plain]; exact H21.out.cell (1 + j) (by rw [List.getElem?_toArray]; exact HDc.out.typ j v hv)) _ Tryz.underlying38 rfl (by rw [HDc.out.tlen]; kernel_rfl) ?_
        go_wp2_with fail
        refine (typ_at b.1 (some b.2) fm 40 _ _ d.t ts H21.out.two HDc.out.kt HOd.out.1 HOd.out.2).mono ?_
        rintro e w22 ⟨v,rfl,h22⟩
        have H22 := Lib.hid h22
        clear h22 r0 d0 lk H21
        go_wp2_with (refine held_store _ _ _ rfl ?_)
        refine ⟨?_⟩
        refine wpList_store_off rfl rfl [.int .i64 v.k,.string v.n,.int .i64 v.c0,.int .i64 v.c1,.int .i64 v.c2,.bool v.c3,.bool v.c4,.slice v.A7 v.n7 v.p7,.bool v.e,.string v.fr,.slice v.A10 v.n10 v.p10,.slice v.A11 v.n11 v.p11,.slice v.A12 v.n12 v.p12,.slice v.A13 v.n13 v.p13,.slice v.A14 v.n14 v.p14] rfl rfl rfl (by kernel_rfl) (by simp [Value.oneCell']) (H22.out.alloc _) (by simp) (new := #[.int .i64 v.k,.string v.n,.int .i64 v.c0,.int .i64 v.c1,.int .i64 v.c2,.bool v.c3,.bool v.c4,.slice v.A7 v.n7 v.p7,.bool v.e,.string v.fr,.slice v.A10 v.n10 v.p10,.slice v.A11 v.n11 v.p11,.slice v.A12 v.n12 v.p12,.slice v.A13 v.n13 v.p13,.slice v.A14 v.n14 v.p14]) rfl ?_
        intro w23 h23
        generalize w22.heap.size = q4 at h23 ⊢
        have H23 := Lib.hid h23
        clear h23 H22
        cases ht : typP (lookS fm) 40 d.t with
        | none =>
         have HZ0 := Lib.hid (res_stuck HN.out HU.out.2 (List.mem_of_getElem? HG.out) (by
          unfold modP
          rw [hi]
          exact mapO_none (List.mem_of_getElem? HGd.out) (by unfold enOf; rw [ht]; rfl)))
         have HZ : Hid (resP l = (7,[])) := Lib.hid (HZ0.out)
         go_wp2
         refine bodyPost_ret (v := .tuple #[.slice none 0 0,.int .i64 7]) (by simp [results,Tryz.results6,go_sem]) rfl ?_
         exact ⟨none,0,0,[],by rw [HZ.out],by rw [HZ.out]; rfl,(Vw.base H23.out.drop.drop.drop.drop.drop.drop.drop.drop.drop.drop.drop (fun wv _ => by rw [HZ.out]; exact Reps.none _ _)).nil _ _⟩
        | some t1 =>
         have m0 := (six H23.out).cell 0 rfl
         have m1 := (six H23.out).cell 1 rfl
         have n0 := (four H23.out).cell 0 (v := .string d.n) (by rw [List.getElem?_toArray]; exact HDc.out.n)
         go_wp2_with (refine held_load 38 _ rfl ?_)
         refine ⟨?_⟩
         refine wpList_load_row rfl 38 _ rfl q4 rfl _ _ _ _ H23.out.block Tryz.underlying38 rfl (by kernel_rfl) ?_
         go_wp2_with (at_builtin; refine Held.out ?_)
         refine ⟨?_⟩
         refine wpList_append_blk (by rfl) _ _ Tryz.underlying25 info_ens rfl (by decide) rfl va (yss.flatten.length + ys.length) xj rfl (cs := [.string r.n,.string d.n,.bool r.au,.int .i64 v.k,.string v.n,.int .i64 v.c0,.int .i64 v.c1,.int .i64 v.c2,.bool v.c3,.bool v.c4,.slice v.A7 v.n7 v.p7,.bool v.e,.string v.fr,.slice v.A10 v.n10 v.p10,.slice v.A11 v.n11 v.p11,.slice v.A12 v.n12 v.p12,.slice v.A13 v.n13 v.p13,.slice v.A14 v.n14 v.p14]) ((eight H23.out).alloc _) rfl rfl (by simp [Value.oneCell']) (by have := HY.out.2; have := HYb.out; simp only [maxLen]; omega) (by have := HY.out.2; have := HYb.out; omega) ?_
         intro v7 w24 h24
         have H24 : Hid (S w0 w24 (MapV b.1 (strM fm) • (MapV rb (ofM l bs) • (Blk q (.cells #[.string r.n,.bool r.au,.slice A2 r.im.length c2,.slice (some ad3) r.df.length c3] 44) • (Blk g (.cells #[.map (some rb)] 55) • (RowV 46 18 v7 (yss.flatten.length + (ys ++ [(⟨r.n,d.n,r.au,t1⟩ : En)]).length) (xj ++ ([.string r.n,.string d.n,.bool r.au,.int .i64 v.k,.string v.n,.int .i64 v.c0,.int .i64 v.c1,.int .i64 v.c2,.bool v.c3,.bool v.c4,.slice v.A7 v.n7 v.p7,.bool v.e,.string v.fr,.slice v.A10 v.n10 v.p10,.slice v.A11 v.n11 v.p11,.slice v.A12 v.n12 v.p12,.slice v.A13 v.n13 v.p13,.slice v.A14 v.n14 v.p14] : List Value)) • (Vw w0 w0.heap.size (fun W => Reps (kEn.K W) 18 (yss.flatten ++ (ys ++ [⟨r.n,d.n,r.au,t1⟩])) (xj ++ ([.string r.n,.string d.n,.bool r.au,.int .i64 v.k,.string v.n,.int .i64 v.c0,.int .i64 v.c1,.int .i64 v.c2,.bool v.c3,.bool v.c4,.slice v.A7 v.n7 v.p7,.bool v.e,.string v.fr,.slice v.A10 v.n10 v.p10,.slice v.A11 v.n11 v.p11,.slice v.A12 v.n12 v.p12,.slice v.A13 v.n13 v.p13,.slice v.A14 v.n14 v.p14] : List Value))) • (MapsV (ownsV l bs) • (MapsV ((dn ++ fullsV (l.drop x.toNat) (bs.drop x.toNat)).eraseIdx x.toNat) • R))))))))) := Lib.hid (by
          have h1 := St.two (Vw.map (Vw.join (eight h24.two.drop.two.drop).three) (q := fun W => Reps (kEn.K W) 18 (yss.flatten ++ (ys ++ [⟨r.n,d.n,r.au,t1⟩])) (xj ++ ([.string r.n,.string d.n,.bool r.au,.int .i64 v.k,.string v.n,.int .i64 v.c0,.int .i64 v.c1,.int .i64 v.c2,.bool v.c3,.bool v.c4,.slice v.A7 v.n7 v.p7,.bool v.e,.string v.fr,.slice v.A10 v.n10 v.p10,.slice v.A11 v.n11 v.p11,.slice v.A12 v.n12 v.p12,.slice v.A13 v.n13 v.p13,.slice v.A14 v.n14 v.p14] : List Value))) fun wv _ hp => by
           rw [← List.append_assoc]
           exact Reps.snoc hp.2 (kEn_mk wv ⟨r.n,d.n,r.au,t1⟩ (hp.1 _ ht)) rfl)
          rw [List.length_append,List.length_singleton, ← Nat.add_assoc]
          exact six (six (six (six (four h1).drop))))
         have HY2 : Hid (mapO (enOf (lookS fm) r) (r.df.take (y + 1).toNat) = some (ys ++ [⟨r.n,d.n,r.au,t1⟩]) ∧ yss.flatten.length + (ys ++ [(⟨r.n,d.n,r.au,t1⟩ : En)]).length ≤ 256 * x.toNat + (y + 1).toNat) := Lib.hid ⟨by rw [e2]; exact mapO_take HGd.out HY.out.1 (by unfold enOf; rw [ht]; rfl),by have := HY.out.2; rw [List.length_append,List.length_singleton]; omega⟩
         clear h24 m0 m1 n0 e2
         go_wp2
         exact ⟨⟨_,y + 1,_,_,rfl,by omega,by omega,by go_num,H24,HY2⟩,by simp only [intOf]; omega⟩
       ·have hlt' : (y < (r.df.length : Int)) = False := eq_false hly
        have e3 : r.df.take y.toNat = r.df := List.take_of_length_le (by omega)
        have hmod : modP (ownHas l) r = some ys := by
         unfold modP
         rw [hi]
         have := HY.out.1
         rwa [e3] at this
        have hfl : (yss ++ [ys]).flatten = yss.flatten ++ ys := by simp
        have H19 : Hid (S w0 wr (MapV rb (ofM l bs) • (MapsV (ownsV l bs) • (MapsV ((dn ++ [(b.1,strM fm)]) ++ fullsV (l.drop (x + 1).toNat) (bs.drop (x + 1).toNat)) • (Blk g (.cells #[.map (some rb)] 55) • (RowV 46 18 va (yss ++ [ys]).flatten.length xj • (Vw w0 w0.heap.size (fun W => Reps (kEn.K W) 18 (yss ++ [ys]).flatten xj) • R))))))) := Lib.hid (by
         rw [hfl,List.length_append,e1, ← fulls_set (b.1,strM fm) hdn HG.out hb]
         exact St.three (six (maps_in (fulls_at hdn HG.out hb) (seven HS.out.three.drop).two)))
        have HT2 : Hid (mapO (modP (ownHas l)) (l.take (x + 1).toNat) = some (yss ++ [ys]) ∧ (yss ++ [ys]).flatten.length ≤ 256 * (x + 1).toNat) := Lib.hid ⟨by rw [e1]; exact mapO_take HG.out HT.out.1 hmod,by have := HY.out.2; have := HE.out.2.2.2.2.1; rw [hfl,List.length_append]; omega⟩
        have hdn2 : (dn ++ [(b.1,strM fm)]).length = (x + 1).toNat := by rw [List.length_append,List.length_singleton]; omega
        clear e1 e3 hmod hfl
        go_wp2
        exact ⟨⟨_,x + 1,_,_,_,rfl,by omega,by omega,by go_num,hdn2,H19,HT2⟩,by simp only [intOf]; omega⟩
    ·have hlt' : (x < (l.length : Int)) = False := eq_false hlt
     have e1 : l.take x.toNat = l := List.take_of_length_le (by omega)
     have hall : allP l = some yss.flatten := by
      unfold allP
      have := HT.out.1
      rw [e1] at this
      rw [this]
      rfl
     have HRs : Hid (resP l = if finB yss.flatten = true then (0,yss.flatten) else (9,[])) := Lib.hid (by rw [res_all HN.out HU.out.2,hall])
     have HEs : Hid (∀ x ∈ yss.flatten,oS x.m ∧ oS x.n ∧ Dp 40 x.t) := Lib.hid (by
      have hm := HT.out.1
      rw [e1] at hm
      intro z hz
      obtain ⟨ys,hys,hz⟩ := List.mem_flatten.1 hz
      obtain ⟨m,hml,hmp⟩ := mapO_mem hm ys hys
      unfold modP at hmp
      have hom := HA.out.2 m hml
      have hmb := mdB_has (HB.out.2 m hml)
      cases hi : impI (ownHas l) (ownP m) m.im with
      | none => rw [hi] at hmp; cases hmp
      | some fm =>
       rw [hi] at hmp
       obtain ⟨d,hd,he⟩ := mapO_mem hmp z hz
       unfold enOf at he
       cases ht : typP (lookS fm) 40 d.t with
       | none => rw [ht] at he; cases he
       | some t1 =>
        rw [ht] at he
        cases he
        exact ⟨hom.1,(hom.2.2.2 d hd).1,dp_typ (look_sized (impI_sized hom.2.1.2 (own_sized hom) hi)) 40 d.t t1 ht (hmb.2.2.2 d hd) (hom.2.2.2 d hd).2⟩)
     have h10 := HR.out.drop.drop.drop.drop
     have hle : yss.flatten.length ≤ 1000000 := by have := HT.out.2; have := HB.out.1; omega
     clear HR HT hall e1
     generalize yss.flatten = es at HRs HEs h10 hle
     obtain ⟨AO,cO,rfl,hlO,hmO,hCO⟩ := Vw.get (Vw.row (d := kEn) (by decide) rfl h10)
     have HF := Lib.hid (finite_at AO cO es h10 hCO HEs.out hle)
     clear h10
     cases hf : finB es with
     | false =>
      have HZ0 : Hid (resP l = (9,[])) := Lib.hid (by rw [HRs.out,hf,if_neg (by simp)])
      go_wp2_with fail
      refine HF.out.mono ?_
      rintro e w30 ⟨rfl,h30⟩
      have H30 := Lib.hid h30.drop.drop
      rw [hf]
      clear h30 HF
      have HZ : Hid (resP l = (9,[])) := Lib.hid (HZ0.out)
      go_wp2
      refine bodyPost_ret (v := .tuple #[.slice none 0 0,.int .i64 9]) (by simp [results,Tryz.results6,go_sem]) rfl ?_
      exact ⟨none,0,0,[],by rw [HZ.out],by rw [HZ.out]; rfl,(Vw.base H30.out (fun wv _ => by rw [HZ.out]; exact Reps.none _ _)).nil _ _⟩
     | true =>
      have HZ : Hid (resP l = (0,es)) := Lib.hid (by rw [HRs.out,hf,if_pos rfl])
      go_wp2_with fail
      refine HF.out.mono ?_
      rintro e w30 ⟨rfl,h30⟩
      have H30 := Lib.hid h30
      rw [hf]
      clear h30 HF
      go_wp2
      refine bodyPost_ret (v := .tuple #[.slice AO es.length cO,.int .i64 0]) (by simp [results,Tryz.results6,go_sem]) rfl ?_
      exact ⟨AO,es.length,cO,xk,by rw [HZ.out],by rw [HZ.out],by rw [HZ.out]; exact H30.out⟩
end Go.Proofs.YtbjddomocggjmaaGreat.Sc
end
