/- same of the law, of equal entries: walked. -/
import Derived.Deep.Cut
import Derived.Test.YtbjddomocggjmaaGreatLAf
import Derived.Test.YtbjddomocggjmaaGreatLAt
namespace Go.Proofs.YtbjddomocggjmaaGreat.Sc
open Go.RowKit Go.ChangeShapes Go.WideShapes Go.Proofs.YtbjddomocggjmaaGreat.Sep
open Go.Proofs.YtbjddomocggjmaaGreatW.PrintWords
variable {B : Nat} {w0 w : World} {R : HP}
set_option maxHeartbeats 16000000 in
set_option maxRecDepth 100000 in
theorem lsame_calls (A : Option Addr) (c : Nat) (A' : Option Addr) (c' : Nat) (l : List En) (h : S w0 w R) (hC : kEn.C w0 A l.length l) (hC' : kEn.C w0 A' l.length l) :
  Calls Tryz.prog 8 #[.slice A l.length c,.slice A' l.length c'] w fun e w' => e = .returned (.bool true) ∧ S w0 w' R := by
 have hl : l.length ≤ 9223372036854775807 := hC.2.1
 have HI := Lib.hid (And.intro hC hC')
 have H := Lib.hid h
 clear h hC hC'
 go_enter Tryz.func8,Tryz.ntmps8
 go_wp2
 go_loopw [5] (fun v wr => ∃ x : Int,0 ≤ x ∧ x ≤ l.length ∧ v = .int .i64 x ∧ Hid (S w0 wr R)) (fun v _ => l.length - (intOf v).toNat)
 case atStart => exact ⟨0,Int.le_refl _,by omega,rfl,H⟩
 case round =>
  clear H
  obtain ⟨x,hx0,hx1,rfl,HR⟩ := hrel
  by_cases hlt : x < l.length
  ·obtain ⟨ad,cs,eA,hcl0,hK,hcell0⟩ := Kd.C_get HI.out.1 zEn x hx0 hlt
   obtain ⟨ad',cs',eA',hcl0',hK',hcell0'⟩ := Kd.C_get HI.out.2 zEn x hx0 hlt
   cases eA
   cases eA'
   have hcell : ∀ (j : Nat) (u : Value),cs[j]? = some u → w0.cell? (ad.add (x.toNat * 18 + j)) = some u := hcell0
   have hcell' : ∀ (j : Nat) (u : Value),cs'[j]? = some u → w0.cell? (ad'.add (x.toNat * 18 + j)) = some u := hcell0'
   generalize l.getD x.toNat zEn = r at *
   obtain ⟨ts,e1,hT⟩ := kEn_open (show kEn.K w0 r cs from hK)
   obtain ⟨ts',e1',hT'⟩ := kEn_open (show kEn.K w0 r cs' from hK')
   obtain ⟨us,hP⟩ := en_cells (show kEn.K w0 r cs from hK)
   obtain ⟨us',hP'⟩ := en_cells (show kEn.K w0 r cs' from hK')
   have hau : cs[2]? = some (.bool r.au) := by rw [e1]; rfl
   have hau' : cs'[2]? = some (.bool r.au) := by rw [e1']; rfl
   have htyp : ∀ (j : Nat) (v : Value),ts[j]? = some v → cs[3 + j]? = some v := fun j v hv => by rw [e1,Nat.add_comm]; exact hv
   have htyp' : ∀ (j : Nat) (v : Value),ts'[j]? = some v → cs'[3 + j]? = some v := fun j v hv => by rw [e1',Nat.add_comm]; exact hv
   have HK := Lib.hid (And.intro (And.intro hT hT') (And.intro (kTy.K_len hT : ts.length = 15) (kTy.K_len hT' : ts'.length = 15)))
   have HF : Hid (∀ W,Below w0.heap.size w0 W → ((W.cell? (ad.add (x.toNat * 18)) = some (.string r.m) ∧ W.cell? ⟨(ad.add (x.toNat * 18)).block,(ad.add (x.toNat * 18)).off + 1,none⟩ = some (.string r.n) ∧ W.cell? ⟨(ad.add (x.toNat * 18)).block,(ad.add (x.toNat * 18)).off + 2,none⟩ = some (.bool r.au)) ∧ (W.cell? (ad'.add (x.toNat * 18)) = some (.string r.m) ∧ W.cell? ⟨(ad'.add (x.toNat * 18)).block,(ad'.add (x.toNat * 18)).off + 1,none⟩ = some (.string r.n) ∧ W.cell? ⟨(ad'.add (x.toNat * 18)).block,(ad'.add (x.toNat * 18)).off + 2,none⟩ = some (.bool r.au))) ∧ Hid ((∀ (j : Nat) (v : Value),ts[j]? = some v → W.cell? ((⟨(ad.add (x.toNat * 18)).block,(ad.add (x.toNat * 18)).off + 3,none⟩ : Addr).add j) = some v) ∧ ∀ (j : Nat) (v : Value),ts'[j]? = some v → W.cell? ((⟨(ad'.add (x.toNat * 18)).block,(ad'.add (x.toNat * 18)).off + 3,none⟩ : Addr).add j) = some v)) := Lib.hid fun W hW => by
    refine ⟨⟨⟨pw_cell_below hW (hcell 0 _ hP.m), ?_, ?_⟩,⟨pw_cell_below hW (hcell' 0 _ hP'.m), ?_, ?_⟩⟩,Lib.hid ⟨fun j v hv => ?_,fun j v hv => ?_⟩⟩
    ·rw [← add_field ad _ 1 (by decide)]; exact pw_cell_below hW (hcell 1 _ hP.n)
    ·rw [← add_field ad _ 2 (by decide)]; exact pw_cell_below hW (hcell 2 _ hau)
    ·rw [← add_field ad' _ 1 (by decide)]; exact pw_cell_below hW (hcell' 1 _ hP'.n)
    ·rw [← add_field ad' _ 2 (by decide)]; exact pw_cell_below hW (hcell' 2 _ hau')
    ·have := pw_cell_below hW (hcell (3 + j) v (htyp j v hv))
     rw [add_field ad _ _ (by omega), ← Nat.add_assoc] at this
     rw [WideShapes.add_plain]; exact this
    ·have := pw_cell_below hW (hcell' (3 + j) v (htyp' j v hv))
     rw [add_field ad' _ _ (by omega), ← Nat.add_assoc] at this
     rw [WideShapes.add_plain]; exact this
   have y0 : (r.m.toList != r.m.toList) = false := bne_self_eq_false _
   have y1 : (r.n.toList != r.n.toList) = false := bne_self_eq_false _
   have y2 : (r.au != r.au) = false := bne_self_eq_false _
   have p126 := eq_true hx0
   have q126 : (x < (l.length : Int)) = True := eq_true hlt
   clear hcell hcell0 hcl0 hK hcell' hcell0' hcl0' hK' hP hP' hau hau' htyp htyp' e1 e1' hT hT'
   clear us us'
   go_wp2
   refine wp_region_held_drew (S := fun W => ((W.cell? (ad.add (x.toNat * 18)) = some (.string r.m) ∧ W.cell? ⟨(ad.add (x.toNat * 18)).block,(ad.add (x.toNat * 18)).off + 1,none⟩ = some (.string r.n) ∧ W.cell? ⟨(ad.add (x.toNat * 18)).block,(ad.add (x.toNat * 18)).off + 2,none⟩ = some (.bool r.au)) ∧ (W.cell? (ad'.add (x.toNat * 18)) = some (.string r.m) ∧ W.cell? ⟨(ad'.add (x.toNat * 18)).block,(ad'.add (x.toNat * 18)).off + 1,none⟩ = some (.string r.n) ∧ W.cell? ⟨(ad'.add (x.toNat * 18)).block,(ad'.add (x.toNat * 18)).off + 2,none⟩ = some (.bool r.au))) ∧ Hid ((∀ (j : Nat) (v : Value),ts[j]? = some v → W.cell? ((⟨(ad.add (x.toNat * 18)).block,(ad.add (x.toNat * 18)).off + 3,none⟩ : Addr).add j) = some v) ∧ ∀ (j : Nat) (v : Value),ts'[j]? = some v → W.cell? ((⟨(ad'.add (x.toNat * 18)).block,(ad'.add (x.toNat * 18)).off + 3,none⟩ : Addr).add j) = some v)) (by kernel_rfl) ?_ (fun hHeld => ?_)
   ·exact HF.out _ HR.out.drew.below
   refine wpAnyH_take (i := 0) (oi := ⟨some 17,.move (.tmp 0),25,"law.go:51",#[],none⟩) (v := ?_) rfl (by kernel_rfl) (by kernel_rfl) (by kernel_rfl) (fun _ _ _ h => h) (Or.inl ⟨by rfl, ?_⟩) (by assumption) ?_
   rotate_left 1
   ·intro w hSw
    try dsimp only at hSw
    go_simp
    all_goals with_reducible rfl
   try simp only [Act.put,List.setIfInBounds_toArray,List.set_cons_succ,List.set_cons_zero]
   refine wpAnyH_take (i := 1) (oi := ⟨some 18,.move (.tmp 5),3,"law.go:51",#[],none⟩) (v := ?_) rfl (by kernel_rfl) (by kernel_rfl) (by kernel_rfl) (fun _ _ _ h => h) (Or.inl ⟨by rfl, ?_⟩) (by assumption) ?_
   rotate_left 1
   ·intro w hSw
    try dsimp only at hSw
    go_simp
    all_goals with_reducible rfl
   try simp only [Act.put,List.setIfInBounds_toArray,List.set_cons_succ,List.set_cons_zero]
   refine wpAnyH_take (i := 2) (oi := ⟨some 19,.indexAddr 25 (.tmp 17) (.tmp 18),0,"law.go:51",#[⟨0,.data⟩,⟨1,.data⟩],none⟩) (v := ?_) rfl (by kernel_rfl) (by kernel_rfl) (by kernel_rfl) (fun _ _ _ h => h) (Or.inl ⟨by rfl, ?_⟩) (by assumption) ?_
   rotate_left 1
   ·intro w hSw
    try dsimp only at hSw
    go_simp
    all_goals with_reducible rfl
   try simp only [Act.put,List.setIfInBounds_toArray,List.set_cons_succ,List.set_cons_zero]
   refine wpAnyH_take (i := 3) (oi := ⟨some 20,.fieldAddr 46 (.tmp 19) 0,0,"law.go:51",#[⟨2,.data⟩],none⟩) (v := ?_) rfl (by kernel_rfl) (by kernel_rfl) (by kernel_rfl) (fun _ _ _ h => h) (Or.inl ⟨by rfl, ?_⟩) (by assumption) ?_
   rotate_left 1
   ·intro w hSw
    try dsimp only at hSw
    go_simp
    all_goals with_reducible rfl
   try simp only [Act.put,List.setIfInBounds_toArray,List.set_cons_succ,List.set_cons_zero]
   refine wpAnyH_take (i := 4) (oi := ⟨some 21,.load 9 (.tmp 20),9,"law.go:51",#[⟨3,.data⟩],none⟩) (v := ?_) rfl (by kernel_rfl) (by kernel_rfl) (by kernel_rfl) (fun _ _ _ h => h) (Or.inl ⟨by rfl, ?_⟩) (by assumption) ?_
   rotate_left 1
   ·intro w hSw
    try dsimp only at hSw
    go_simp
    all_goals with_reducible rfl
   try simp only [Act.put,List.setIfInBounds_toArray,List.set_cons_succ,List.set_cons_zero]
   refine wpAnyH_take (i := 5) (oi := ⟨some 22,.move (.tmp 1),25,"law.go:51",#[],none⟩) (v := ?_) rfl (by kernel_rfl) (by kernel_rfl) (by kernel_rfl) (fun _ _ _ h => h) (Or.inl ⟨by rfl, ?_⟩) (by assumption) ?_
   rotate_left 1
   ·intro w hSw
    try dsimp only at hSw
    go_simp
    all_goals with_reducible rfl
   try simp only [Act.put,List.setIfInBounds_toArray,List.set_cons_succ,List.set_cons_zero]
   refine wpAnyH_take (i := 6) (oi := ⟨some 23,.move (.tmp 5),3,"law.go:51",#[],none⟩) (v := ?_) rfl (by kernel_rfl) (by kernel_rfl) (by kernel_rfl) (fun _ _ _ h => h) (Or.inl ⟨by rfl, ?_⟩) (by assumption) ?_
   rotate_left 1
   ·intro w hSw
    try dsimp only at hSw
    go_simp
    all_goals with_reducible rfl
   try simp only [Act.put,List.setIfInBounds_toArray,List.set_cons_succ,List.set_cons_zero]
   refine wpAnyH_take (i := 7) (oi := ⟨some 24,.indexAddr 25 (.tmp 22) (.tmp 23),0,"law.go:51",#[⟨5,.data⟩,⟨6,.data⟩],none⟩) (v := ?_) rfl (by kernel_rfl) (by kernel_rfl) (by kernel_rfl) (fun _ _ _ h => h) (Or.inl ⟨by rfl, ?_⟩) (by assumption) ?_
   rotate_left 1
   ·intro w hSw
    try dsimp only at hSw
    go_simp
    all_goals with_reducible rfl
   try simp only [Act.put,List.setIfInBounds_toArray,List.set_cons_succ,List.set_cons_zero]
   refine wpAnyH_take (i := 8) (oi := ⟨some 25,.fieldAddr 46 (.tmp 24) 0,0,"law.go:51",#[⟨7,.data⟩],none⟩) (v := ?_) rfl (by kernel_rfl) (by kernel_rfl) (by kernel_rfl) (fun _ _ _ h => h) (Or.inl ⟨by rfl, ?_⟩) (by assumption) ?_
   rotate_left 1
   ·intro w hSw
    try dsimp only at hSw
    go_simp
    all_goals with_reducible rfl
   try simp only [Act.put,List.setIfInBounds_toArray,List.set_cons_succ,List.set_cons_zero]
   refine wpAnyH_take (i := 9) (oi := ⟨some 26,.load 9 (.tmp 25),9,"law.go:51",#[⟨8,.data⟩],none⟩) (v := ?_) rfl (by kernel_rfl) (by kernel_rfl) (by kernel_rfl) (fun _ _ _ h => h) (Or.inl ⟨by rfl, ?_⟩) (by assumption) ?_
   rotate_left 1
   ·intro w hSw
    try dsimp only at hSw
    go_simp
    all_goals with_reducible rfl
   try simp only [Act.put,List.setIfInBounds_toArray,List.set_cons_succ,List.set_cons_zero]
   refine wpAnyH_take (i := 10) (oi := ⟨some 27,.binOp .neq 9 (.tmp 21) (.tmp 26) 9,4,"law.go:51",#[⟨4,.data⟩,⟨9,.data⟩],none⟩) (v := ?_) rfl (by kernel_rfl) (by kernel_rfl) (by kernel_rfl) (fun _ _ _ h => h) (Or.inl ⟨by rfl, ?_⟩) (by assumption) ?_
   rotate_left 1
   ·intro w hSw
    try dsimp only at hSw
    go_simp
    all_goals with_reducible rfl
   try simp only [Act.put,List.setIfInBounds_toArray,List.set_cons_succ,List.set_cons_zero]
   refine wpAnyH_take (i := 11) (oi := ⟨some 28,.move (.tmp 27),4,"law.go:51",#[⟨10,.data⟩],none⟩) (v := ?_) rfl (by kernel_rfl) (by kernel_rfl) (by kernel_rfl) (fun _ _ _ h => h) (Or.inl ⟨by rfl, ?_⟩) (by assumption) ?_
   rotate_left 1
   ·intro w hSw
    try dsimp only at hSw
    go_simp
    all_goals with_reducible rfl
   try simp only [Act.put,List.setIfInBounds_toArray,List.set_cons_succ,List.set_cons_zero]
   refine wpAnyH_take (i := 12) (oi := ⟨some 29,.move (.tmp 0),25,"law.go:51",#[⟨11,.guard⟩],some (11,false)⟩) (v := ?_) rfl (by kernel_rfl) (by kernel_rfl) (by kernel_rfl) (fun _ _ _ h => h) (Or.inl ⟨by rfl, ?_⟩) (by assumption) ?_
   rotate_left 1
   ·intro w hSw
    try dsimp only at hSw
    go_simp
    all_goals with_reducible rfl
   try simp only [Act.put,List.setIfInBounds_toArray,List.set_cons_succ,List.set_cons_zero]
   refine wpAnyH_take (i := 13) (oi := ⟨some 30,.move (.tmp 5),3,"law.go:51",#[⟨11,.guard⟩],some (11,false)⟩) (v := ?_) rfl (by kernel_rfl) (by kernel_rfl) (by kernel_rfl) (fun _ _ _ h => h) (Or.inl ⟨by rfl, ?_⟩) (by assumption) ?_
   rotate_left 1
   ·intro w hSw
    try dsimp only at hSw
    go_simp
    all_goals with_reducible rfl
   try simp only [Act.put,List.setIfInBounds_toArray,List.set_cons_succ,List.set_cons_zero]
   refine wpAnyH_take (i := 14) (oi := ⟨some 31,.indexAddr 25 (.tmp 29) (.tmp 30),0,"law.go:51",#[⟨12,.data⟩,⟨13,.data⟩,⟨11,.guard⟩],some (11,false)⟩) (v := ?_) rfl (by kernel_rfl) (by kernel_rfl) (by kernel_rfl) (fun _ _ _ h => h) (Or.inl ⟨by rfl, ?_⟩) (by assumption) ?_
   rotate_left 1
   ·intro w hSw
    try dsimp only at hSw
    go_simp
    all_goals with_reducible rfl
   try simp only [Act.put,List.setIfInBounds_toArray,List.set_cons_succ,List.set_cons_zero]
   refine wpAnyH_take (i := 15) (oi := ⟨some 32,.fieldAddr 46 (.tmp 31) 1,0,"law.go:51",#[⟨14,.data⟩,⟨11,.guard⟩],some (11,false)⟩) (v := ?_) rfl (by kernel_rfl) (by kernel_rfl) (by kernel_rfl) (fun _ _ _ h => h) (Or.inl ⟨by rfl, ?_⟩) (by assumption) ?_
   rotate_left 1
   ·intro w hSw
    try dsimp only at hSw
    go_simp
    all_goals with_reducible rfl
   try simp only [Act.put,List.setIfInBounds_toArray,List.set_cons_succ,List.set_cons_zero]
   refine wpAnyH_take (i := 16) (oi := ⟨some 33,.load 9 (.tmp 32),9,"law.go:51",#[⟨15,.data⟩,⟨11,.guard⟩],some (11,false)⟩) (v := ?_) rfl (by kernel_rfl) (by kernel_rfl) (by kernel_rfl) (fun _ _ _ h => h) (Or.inl ⟨by rfl, ?_⟩) (by assumption) ?_
   rotate_left 1
   ·intro w hSw
    try dsimp only at hSw
    go_simp
    all_goals with_reducible rfl
   try simp only [Act.put,List.setIfInBounds_toArray,List.set_cons_succ,List.set_cons_zero]
   refine wpAnyH_take (i := 17) (oi := ⟨some 34,.move (.tmp 1),25,"law.go:51",#[⟨11,.guard⟩],some (11,false)⟩) (v := ?_) rfl (by kernel_rfl) (by kernel_rfl) (by kernel_rfl) (fun _ _ _ h => h) (Or.inl ⟨by rfl, ?_⟩) (by assumption) ?_
   rotate_left 1
   ·intro w hSw
    try dsimp only at hSw
    go_simp
    all_goals with_reducible rfl
   try simp only [Act.put,List.setIfInBounds_toArray,List.set_cons_succ,List.set_cons_zero]
   refine wpAnyH_take (i := 18) (oi := ⟨some 35,.move (.tmp 5),3,"law.go:51",#[⟨11,.guard⟩],some (11,false)⟩) (v := ?_) rfl (by kernel_rfl) (by kernel_rfl) (by kernel_rfl) (fun _ _ _ h => h) (Or.inl ⟨by rfl, ?_⟩) (by assumption) ?_
   rotate_left 1
   ·intro w hSw
    try dsimp only at hSw
    go_simp
    all_goals with_reducible rfl
   try simp only [Act.put,List.setIfInBounds_toArray,List.set_cons_succ,List.set_cons_zero]
   refine wpAnyH_take (i := 19) (oi := ⟨some 36,.indexAddr 25 (.tmp 34) (.tmp 35),0,"law.go:51",#[⟨17,.data⟩,⟨18,.data⟩,⟨11,.guard⟩],some (11,false)⟩) (v := ?_) rfl (by kernel_rfl) (by kernel_rfl) (by kernel_rfl) (fun _ _ _ h => h) (Or.inl ⟨by rfl, ?_⟩) (by assumption) ?_
   rotate_left 1
   ·intro w hSw
    try dsimp only at hSw
    go_simp
    all_goals with_reducible rfl
   try simp only [Act.put,List.setIfInBounds_toArray,List.set_cons_succ,List.set_cons_zero]
   refine wpAnyH_take (i := 20) (oi := ⟨some 37,.fieldAddr 46 (.tmp 36) 1,0,"law.go:51",#[⟨19,.data⟩,⟨11,.guard⟩],some (11,false)⟩) (v := ?_) rfl (by kernel_rfl) (by kernel_rfl) (by kernel_rfl) (fun _ _ _ h => h) (Or.inl ⟨by rfl, ?_⟩) (by assumption) ?_
   rotate_left 1
   ·intro w hSw
    try dsimp only at hSw
    go_simp
    all_goals with_reducible rfl
   try simp only [Act.put,List.setIfInBounds_toArray,List.set_cons_succ,List.set_cons_zero]
   refine wpAnyH_take (i := 21) (oi := ⟨some 38,.load 9 (.tmp 37),9,"law.go:51",#[⟨20,.data⟩,⟨11,.guard⟩],some (11,false)⟩) (v := ?_) rfl (by kernel_rfl) (by kernel_rfl) (by kernel_rfl) (fun _ _ _ h => h) (Or.inl ⟨by rfl, ?_⟩) (by assumption) ?_
   rotate_left 1
   ·intro w hSw
    try dsimp only at hSw
    go_simp
    all_goals with_reducible rfl
   try simp only [Act.put,List.setIfInBounds_toArray,List.set_cons_succ,List.set_cons_zero]
   refine wpAnyH_take (i := 22) (oi := ⟨some 39,.binOp .neq 9 (.tmp 33) (.tmp 38) 9,4,"law.go:51",#[⟨16,.data⟩,⟨21,.data⟩,⟨11,.guard⟩],some (11,false)⟩) (v := ?_) rfl (by kernel_rfl) (by kernel_rfl) (by kernel_rfl) (fun _ _ _ h => h) (Or.inl ⟨by rfl, ?_⟩) (by assumption) ?_
   rotate_left 1
   ·intro w hSw
    try dsimp only at hSw
    go_simp
    all_goals with_reducible rfl
   try simp only [Act.put,List.setIfInBounds_toArray,List.set_cons_succ,List.set_cons_zero]
   refine wpAnyH_take (i := 23) (oi := ⟨some 40,.pick (.tmp 28) (.const (.bool true)) (.tmp 39),4,"law.go:51",#[⟨11,.data⟩,⟨22,.data⟩],none⟩) (v := ?_) rfl (by kernel_rfl) (by kernel_rfl) (by kernel_rfl) (fun _ _ _ h => h) (Or.inl ⟨by rfl, ?_⟩) (by assumption) ?_
   rotate_left 1
   ·intro w hSw
    try dsimp only at hSw
    go_simp
    all_goals with_reducible rfl
   try simp only [Act.put,List.setIfInBounds_toArray,List.set_cons_succ,List.set_cons_zero]
   refine wpAnyH_take (i := 24) (oi := ⟨some 41,.move (.tmp 40),4,"law.go:51",#[⟨23,.data⟩,⟨11,.chain⟩],none⟩) (v := ?_) rfl (by kernel_rfl) (by kernel_rfl) (by kernel_rfl) (fun _ _ _ h => h) (Or.inl ⟨by rfl, ?_⟩) (by assumption) ?_
   rotate_left 1
   ·intro w hSw
    try dsimp only at hSw
    go_simp
    all_goals with_reducible rfl
   try simp only [Act.put,List.setIfInBounds_toArray,List.set_cons_succ,List.set_cons_zero]
   refine wpAnyH_take (i := 25) (oi := ⟨some 42,.move (.tmp 0),25,"law.go:51",#[⟨24,.guard⟩],some (24,false)⟩) (v := ?_) rfl (by kernel_rfl) (by kernel_rfl) (by kernel_rfl) (fun _ _ _ h => h) (Or.inl ⟨by rfl, ?_⟩) (by assumption) ?_
   rotate_left 1
   ·intro w hSw
    try dsimp only at hSw
    go_simp
    all_goals with_reducible rfl
   try simp only [Act.put,List.setIfInBounds_toArray,List.set_cons_succ,List.set_cons_zero]
   refine wpAnyH_take (i := 26) (oi := ⟨some 43,.move (.tmp 5),3,"law.go:51",#[⟨24,.guard⟩],some (24,false)⟩) (v := ?_) rfl (by kernel_rfl) (by kernel_rfl) (by kernel_rfl) (fun _ _ _ h => h) (Or.inl ⟨by rfl, ?_⟩) (by assumption) ?_
   rotate_left 1
   ·intro w hSw
    try dsimp only at hSw
    go_simp
    all_goals with_reducible rfl
   try simp only [Act.put,List.setIfInBounds_toArray,List.set_cons_succ,List.set_cons_zero]
   refine wpAnyH_take (i := 27) (oi := ⟨some 44,.indexAddr 25 (.tmp 42) (.tmp 43),0,"law.go:51",#[⟨25,.data⟩,⟨26,.data⟩,⟨24,.guard⟩],some (24,false)⟩) (v := ?_) rfl (by kernel_rfl) (by kernel_rfl) (by kernel_rfl) (fun _ _ _ h => h) (Or.inl ⟨by rfl, ?_⟩) (by assumption) ?_
   rotate_left 1
   ·intro w hSw
    try dsimp only at hSw
    go_simp
    all_goals with_reducible rfl
   try simp only [Act.put,List.setIfInBounds_toArray,List.set_cons_succ,List.set_cons_zero]
   refine wpAnyH_take (i := 28) (oi := ⟨some 45,.fieldAddr 46 (.tmp 44) 2,0,"law.go:51",#[⟨27,.data⟩,⟨24,.guard⟩],some (24,false)⟩) (v := ?_) rfl (by kernel_rfl) (by kernel_rfl) (by kernel_rfl) (fun _ _ _ h => h) (Or.inl ⟨by rfl, ?_⟩) (by assumption) ?_
   rotate_left 1
   ·intro w hSw
    try dsimp only at hSw
    go_simp
    all_goals with_reducible rfl
   try simp only [Act.put,List.setIfInBounds_toArray,List.set_cons_succ,List.set_cons_zero]
   refine wpAnyH_take (i := 29) (oi := ⟨some 46,.load 4 (.tmp 45),4,"law.go:51",#[⟨28,.data⟩,⟨24,.guard⟩],some (24,false)⟩) (v := ?_) rfl (by kernel_rfl) (by kernel_rfl) (by kernel_rfl) (fun _ _ _ h => h) (Or.inl ⟨by rfl, ?_⟩) (by assumption) ?_
   rotate_left 1
   ·intro w hSw
    try dsimp only at hSw
    go_simp
    all_goals with_reducible rfl
   try simp only [Act.put,List.setIfInBounds_toArray,List.set_cons_succ,List.set_cons_zero]
   refine wpAnyH_take (i := 30) (oi := ⟨some 47,.move (.tmp 1),25,"law.go:51",#[⟨24,.guard⟩],some (24,false)⟩) (v := ?_) rfl (by kernel_rfl) (by kernel_rfl) (by kernel_rfl) (fun _ _ _ h => h) (Or.inl ⟨by rfl, ?_⟩) (by assumption) ?_
   rotate_left 1
   ·intro w hSw
    try dsimp only at hSw
    go_simp
    all_goals with_reducible rfl
   try simp only [Act.put,List.setIfInBounds_toArray,List.set_cons_succ,List.set_cons_zero]
   refine wpAnyH_take (i := 31) (oi := ⟨some 48,.move (.tmp 5),3,"law.go:51",#[⟨24,.guard⟩],some (24,false)⟩) (v := ?_) rfl (by kernel_rfl) (by kernel_rfl) (by kernel_rfl) (fun _ _ _ h => h) (Or.inl ⟨by rfl, ?_⟩) (by assumption) ?_
   rotate_left 1
   ·intro w hSw
    try dsimp only at hSw
    go_simp
    all_goals with_reducible rfl
   try simp only [Act.put,List.setIfInBounds_toArray,List.set_cons_succ,List.set_cons_zero]
   refine wpAnyH_take (i := 32) (oi := ⟨some 49,.indexAddr 25 (.tmp 47) (.tmp 48),0,"law.go:51",#[⟨30,.data⟩,⟨31,.data⟩,⟨24,.guard⟩],some (24,false)⟩) (v := ?_) rfl (by kernel_rfl) (by kernel_rfl) (by kernel_rfl) (fun _ _ _ h => h) (Or.inl ⟨by rfl, ?_⟩) (by assumption) ?_
   rotate_left 1
   ·intro w hSw
    try dsimp only at hSw
    go_simp
    all_goals with_reducible rfl
   try simp only [Act.put,List.setIfInBounds_toArray,List.set_cons_succ,List.set_cons_zero]
   refine wpAnyH_take (i := 33) (oi := ⟨some 50,.fieldAddr 46 (.tmp 49) 2,0,"law.go:51",#[⟨32,.data⟩,⟨24,.guard⟩],some (24,false)⟩) (v := ?_) rfl (by kernel_rfl) (by kernel_rfl) (by kernel_rfl) (fun _ _ _ h => h) (Or.inl ⟨by rfl, ?_⟩) (by assumption) ?_
   rotate_left 1
   ·intro w hSw
    try dsimp only at hSw
    go_simp
    all_goals with_reducible rfl
   try simp only [Act.put,List.setIfInBounds_toArray,List.set_cons_succ,List.set_cons_zero]
   refine wpAnyH_take (i := 34) (oi := ⟨some 51,.load 4 (.tmp 50),4,"law.go:51",#[⟨33,.data⟩,⟨24,.guard⟩],some (24,false)⟩) (v := ?_) rfl (by kernel_rfl) (by kernel_rfl) (by kernel_rfl) (fun _ _ _ h => h) (Or.inl ⟨by rfl, ?_⟩) (by assumption) ?_
   rotate_left 1
   ·intro w hSw
    try dsimp only at hSw
    go_simp
    all_goals with_reducible rfl
   try simp only [Act.put,List.setIfInBounds_toArray,List.set_cons_succ,List.set_cons_zero]
   refine wpAnyH_take (i := 35) (oi := ⟨some 52,.binOp .neq 4 (.tmp 46) (.tmp 51) 4,4,"law.go:51",#[⟨29,.data⟩,⟨34,.data⟩,⟨24,.guard⟩],some (24,false)⟩) (v := ?_) rfl (by kernel_rfl) (by kernel_rfl) (by kernel_rfl) (fun _ _ _ h => h) (Or.inl ⟨by rfl, ?_⟩) (by assumption) ?_
   rotate_left 1
   ·intro w hSw
    try dsimp only at hSw
    go_simp
    all_goals with_reducible rfl
   try simp only [Act.put,List.setIfInBounds_toArray,List.set_cons_succ,List.set_cons_zero]
   refine wpAnyH_take (i := 36) (oi := ⟨some 53,.pick (.tmp 41) (.const (.bool true)) (.tmp 52),4,"law.go:51",#[⟨24,.data⟩,⟨35,.data⟩],none⟩) (v := ?_) rfl (by kernel_rfl) (by kernel_rfl) (by kernel_rfl) (fun _ _ _ h => h) (Or.inl ⟨by rfl, ?_⟩) (by assumption) ?_
   rotate_left 1
   ·intro w hSw
    try dsimp only at hSw
    go_simp
    all_goals with_reducible rfl
   try simp only [Act.put,List.setIfInBounds_toArray,List.set_cons_succ,List.set_cons_zero]
   refine wpAnyH_take (i := 37) (oi := ⟨some 54,.move (.tmp 53),4,"law.go:51",#[⟨36,.data⟩,⟨24,.chain⟩],none⟩) (v := ?_) rfl (by kernel_rfl) (by kernel_rfl) (by kernel_rfl) (fun _ _ _ h => h) (Or.inl ⟨by rfl, ?_⟩) (by assumption) ?_
   rotate_left 1
   ·intro w hSw
    try dsimp only at hSw
    go_simp
    all_goals with_reducible rfl
   try simp only [Act.put,List.setIfInBounds_toArray,List.set_cons_succ,List.set_cons_zero]
   refine wpAnyH_take (i := 38) (oi := ⟨some 55,.move (.tmp 0),25,"law.go:51",#[⟨37,.guard⟩],some (37,false)⟩) (v := ?_) rfl (by kernel_rfl) (by kernel_rfl) (by kernel_rfl) (fun _ _ _ h => h) (Or.inl ⟨by rfl, ?_⟩) (by assumption) ?_
   rotate_left 1
   ·intro w hSw
    try dsimp only at hSw
    go_simp
    all_goals with_reducible rfl
   try simp only [Act.put,List.setIfInBounds_toArray,List.set_cons_succ,List.set_cons_zero]
   refine wpAnyH_take (i := 39) (oi := ⟨some 56,.move (.tmp 5),3,"law.go:51",#[⟨37,.guard⟩],some (37,false)⟩) (v := ?_) rfl (by kernel_rfl) (by kernel_rfl) (by kernel_rfl) (fun _ _ _ h => h) (Or.inl ⟨by rfl, ?_⟩) (by assumption) ?_
   rotate_left 1
   ·intro w hSw
    try dsimp only at hSw
    go_simp
    all_goals with_reducible rfl
   try simp only [Act.put,List.setIfInBounds_toArray,List.set_cons_succ,List.set_cons_zero]
   refine wpAnyH_take (i := 40) (oi := ⟨some 57,.indexAddr 25 (.tmp 55) (.tmp 56),0,"law.go:51",#[⟨38,.data⟩,⟨39,.data⟩,⟨37,.guard⟩],some (37,false)⟩) (v := ?_) rfl (by kernel_rfl) (by kernel_rfl) (by kernel_rfl) (fun _ _ _ h => h) (Or.inl ⟨by rfl, ?_⟩) (by assumption) ?_
   rotate_left 1
   ·intro w hSw
    try dsimp only at hSw
    go_simp
    all_goals with_reducible rfl
   try simp only [Act.put,List.setIfInBounds_toArray,List.set_cons_succ,List.set_cons_zero]
   refine wpAnyH_take (i := 41) (oi := ⟨some 58,.fieldAddr 46 (.tmp 57) 3,0,"law.go:51",#[⟨40,.data⟩,⟨37,.guard⟩],some (37,false)⟩) (v := ?_) rfl (by kernel_rfl) (by kernel_rfl) (by kernel_rfl) (fun _ _ _ h => h) (Or.inl ⟨by rfl, ?_⟩) (by assumption) ?_
   rotate_left 1
   ·intro w hSw
    try dsimp only at hSw
    go_simp
    all_goals with_reducible rfl
   try simp only [Act.put,List.setIfInBounds_toArray,List.set_cons_succ,List.set_cons_zero]
   refine wpAnyH_take (i := 42) (oi := ⟨some 59,.load 38 (.tmp 58),38,"law.go:51",#[⟨41,.data⟩,⟨37,.guard⟩],some (37,false)⟩) (v := .agg ts.toArray) rfl (by kernel_rfl) (by kernel_rfl) (by kernel_rfl) (fun _ _ _ h => h) (yields_load (by rfl) 38 _ rfl ⟨(ad.add (x.toNat * 18)).block,(ad.add (x.toNat * 18)).off + 3,none⟩ rfl ts (fun w hS => hS.2.out.1) _ Tryz.underlying38 rfl (by rw [HK.out.2.1]; kernel_rfl)) (by assumption) ?_
   try simp only [Act.put,List.setIfInBounds_toArray,List.set_cons_succ,List.set_cons_zero]
   refine wpAnyH_take (i := 43) (oi := ⟨some 60,.move (.tmp 1),25,"law.go:51",#[⟨37,.guard⟩],some (37,false)⟩) (v := ?_) rfl (by kernel_rfl) (by kernel_rfl) (by kernel_rfl) (fun _ _ _ h => h) (Or.inl ⟨by rfl, ?_⟩) (by assumption) ?_
   rotate_left 1
   ·intro w hSw
    try dsimp only at hSw
    go_simp
    all_goals with_reducible rfl
   try simp only [Act.put,List.setIfInBounds_toArray,List.set_cons_succ,List.set_cons_zero]
   refine wpAnyH_take (i := 44) (oi := ⟨some 61,.move (.tmp 5),3,"law.go:51",#[⟨37,.guard⟩],some (37,false)⟩) (v := ?_) rfl (by kernel_rfl) (by kernel_rfl) (by kernel_rfl) (fun _ _ _ h => h) (Or.inl ⟨by rfl, ?_⟩) (by assumption) ?_
   rotate_left 1
   ·intro w hSw
    try dsimp only at hSw
    go_simp
    all_goals with_reducible rfl
   try simp only [Act.put,List.setIfInBounds_toArray,List.set_cons_succ,List.set_cons_zero]
   refine wpAnyH_take (i := 45) (oi := ⟨some 62,.indexAddr 25 (.tmp 60) (.tmp 61),0,"law.go:51",#[⟨43,.data⟩,⟨44,.data⟩,⟨37,.guard⟩],some (37,false)⟩) (v := ?_) rfl (by kernel_rfl) (by kernel_rfl) (by kernel_rfl) (fun _ _ _ h => h) (Or.inl ⟨by rfl, ?_⟩) (by assumption) ?_
   rotate_left 1
   ·intro w hSw
    try dsimp only at hSw
    go_simp
    all_goals with_reducible rfl
   try simp only [Act.put,List.setIfInBounds_toArray,List.set_cons_succ,List.set_cons_zero]
   refine wpAnyH_take (i := 46) (oi := ⟨some 63,.fieldAddr 46 (.tmp 62) 3,0,"law.go:51",#[⟨45,.data⟩,⟨37,.guard⟩],some (37,false)⟩) (v := ?_) rfl (by kernel_rfl) (by kernel_rfl) (by kernel_rfl) (fun _ _ _ h => h) (Or.inl ⟨by rfl, ?_⟩) (by assumption) ?_
   rotate_left 1
   ·intro w hSw
    try dsimp only at hSw
    go_simp
    all_goals with_reducible rfl
   try simp only [Act.put,List.setIfInBounds_toArray,List.set_cons_succ,List.set_cons_zero]
   refine wpAnyH_take (i := 47) (oi := ⟨some 64,.load 38 (.tmp 63),38,"law.go:51",#[⟨46,.data⟩,⟨37,.guard⟩],some (37,false)⟩) (v := .agg ts'.toArray) rfl (by kernel_rfl) (by kernel_rfl) (by kernel_rfl) (fun _ _ _ h => h) (yields_load (by rfl) 38 _ rfl ⟨(ad'.add (x.toNat * 18)).block,(ad'.add (x.toNat * 18)).off + 3,none⟩ rfl ts' (fun w hS => hS.2.out.2) _ Tryz.underlying38 rfl (by rw [HK.out.2.2]; kernel_rfl)) (by assumption) ?_
   try simp only [Act.put,List.setIfInBounds_toArray,List.set_cons_succ,List.set_cons_zero]
   refine wpAnyH_ready (rs := [48]) (by kernel_rfl) (by simp) ?_
   refine AllReadyH.cons (o := ⟨some 65,.call { callee := .value (.func 23),args := #[.tmp 59,.tmp 64],argTypes := #[38,38] },4,"law.go:51",#[⟨42,.data⟩,⟨47,.data⟩,⟨37,.chain⟩,⟨37,.guard⟩],some (37,false)⟩) rfl (fun K hK => ?_) AllReadyH.nil
   go_simp
   refine (same_calls r.t ts ts' HR.out.drew HK.out.1.1 HK.out.1.2).mono ?_
   rintro e w3 ⟨rfl,h3⟩
   refine hK.out _ _ ?_ (fun hHeld => ?_)
   ·exact HF.out _ h3.below
   clear hK K
   try simp only [Act.put,List.setIfInBounds_toArray,List.set_cons_succ,List.set_cons_zero]
   refine wpAnyH_take (i := 49) (oi := ⟨some 66,.unOp .not 4 (.tmp 65),4,"law.go:51",#[⟨48,.data⟩,⟨37,.guard⟩],some (37,false)⟩) (v := ?_) rfl (by kernel_rfl) (by kernel_rfl) (by kernel_rfl) (fun _ _ _ h => h) (Or.inl ⟨by rfl, ?_⟩) (by assumption) ?_
   rotate_left 1
   ·intro w hSw
    try dsimp only at hSw
    go_simp
    all_goals with_reducible rfl
   try simp only [Act.put,List.setIfInBounds_toArray,List.set_cons_succ,List.set_cons_zero]
   refine wpAnyH_take (i := 50) (oi := ⟨some 67,.pick (.tmp 54) (.const (.bool true)) (.tmp 66),4,"law.go:51",#[⟨37,.data⟩,⟨49,.data⟩],none⟩) (v := ?_) rfl (by kernel_rfl) (by kernel_rfl) (by kernel_rfl) (fun _ _ _ h => h) (Or.inl ⟨by rfl, ?_⟩) (by assumption) ?_
   rotate_left 1
   ·intro w hSw
    try dsimp only at hSw
    go_simp
    all_goals with_reducible rfl
   try simp only [Act.put,List.setIfInBounds_toArray,List.set_cons_succ,List.set_cons_zero]
   refine wpAnyH_done (by kernel_rfl) ?_ _
   have HD := Lib.hid h3
   clear h3 hHeld HR
   go_wp2
   exact ⟨⟨x + 1,by omega,by omega,by go_num,HD⟩,by simp only [intOf]; omega⟩
  ·have hlt' : (x < (l.length : Int)) = False := eq_false hlt
   go_wp2
   go_ret
   exact ⟨rfl,HR.out⟩
theorem lsame_at {B : Nat} (A : Option Addr) (c : Nat) (A' : Option Addr) (c' : Nat) (l : List En) (h : St B w0 w R) (hC : kEn.C w A l.length l) (hC' : kEn.C w A' l.length l) :
  Calls Tryz.prog 8 #[.slice A l.length c,.slice A' l.length c'] w fun e w' => e = .returned (.bool true) ∧ St B w0 w' R :=
 (lsame_calls (w0 := w) (R := emp) A c A' c' l (St.start w) hC hC').mono fun _ _ ⟨h1,h2⟩ => ⟨h1,(nest h h2).drop⟩
end Go.Proofs.YtbjddomocggjmaaGreat.Sc
