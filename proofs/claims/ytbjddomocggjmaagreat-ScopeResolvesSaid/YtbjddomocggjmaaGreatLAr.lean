/- SameValue of the reference of layer 8, of equal values: walked. -/
import Derived.Test.YtbjddomocggjmaaGreatLAq
section
namespace Go.Proofs.YtbjddomocggjmaaGreat.Sc
open Go.RowKit Go.ChangeShapes Go.WideShapes Go.Proofs.YtbjddomocggjmaaGreat.Sep
open Go.Proofs.YtbjddomocggjmaaGreatW.PrintWords
variable {B : Nat} {w0 w : World} {R : HP}
set_option maxHeartbeats 4000000 in
theorem stexts_calls (A : Option Addr) (c : Nat) (A' : Option Addr) (c' : Nat) (l : List ByteArray) (h : S w0 w R) (hC : Kd.string.C w0 A l.length l) (hC' : Kd.string.C w0 A' l.length l) :
  Calls Tryz.prog 50 #[.slice A l.length c,.slice A' l.length c'] w fun e w' => e = .returned (.bool true) ∧ S w0 w' R := by
 have hl : l.length ≤ 9223372036854775807 := hC.2.1
 have HC := Lib.hid (And.intro hC hC')
 have H := Lib.hid h
 clear h hC hC'
 go_enter Tryz.func50,Tryz.ntmps50
 go_wp2
 go_loopw [5] (fun v wr => ∃ x : Int,0 ≤ x ∧ x ≤ l.length ∧ v = .int .i64 x ∧ Hid (S w0 wr R)) (fun v _ => l.length - (intOf v).toNat)
 case atStart => exact ⟨0,Int.le_refl _,by omega,rfl,H⟩
 case round =>
  clear H
  obtain ⟨x,hx0,hx1,rfl,HR⟩ := hrel
  by_cases hlt : x < l.length
  ·obtain ⟨ad,cs,eA,hcl0,hK,hcell0⟩ := Kd.C_get HC.out.1 (⟨#[]⟩ : ByteArray) x hx0 hlt
   obtain ⟨ad',cs',eA',hcl0',hK',hcell0'⟩ := Kd.C_get HC.out.2 (⟨#[]⟩ : ByteArray) x hx0 hlt
   cases eA
   cases eA'
   obtain rfl : cs = [.string (l.getD x.toNat (⟨#[]⟩ : ByteArray))] := hK
   obtain rfl : cs' = [.string (l.getD x.toNat (⟨#[]⟩ : ByteArray))] := hK'
   generalize l.getD x.toNat (⟨#[]⟩ : ByteArray) = r at *
   have hcell : ∀ (j : Nat) (u : Value),([.string r] : List Value)[j]? = some u → w0.cell? (ad.add (x.toNat * 1 + j)) = some u := hcell0
   have hcell' : ∀ (j : Nat) (u : Value),([.string r] : List Value)[j]? = some u → w0.cell? (ad'.add (x.toNat * 1 + j)) = some u := hcell0'
   have d0 : wr.cell? (ad.add x.toNat) = some (.string r) := by have h := pw_cell_below HR.out.below (hcell 0 _ rfl); rwa [Nat.mul_one,Nat.add_zero] at h
   have d1 : wr.cell? (ad'.add x.toNat) = some (.string r) := by have h := pw_cell_below HR.out.below (hcell' 0 _ rfl); rwa [Nat.mul_one,Nat.add_zero] at h
   have p126 := eq_true hx0
   have q126 : (x < (l.length : Int)) = True := eq_true hlt
   clear hcell hcell0 hcl0 hcell' hcell0' hcl0'
   go_wp2
   go_quiet (fail)
   go_wp2
   exact ⟨⟨x + 1,by omega,by omega,by go_num,Lib.hid (HR.out.drewN _)⟩,by simp only [intOf]; omega⟩
  ·have hlt' : (x < (l.length : Int)) = False := eq_false hlt
   go_wp2
   go_ret
   exact ⟨rfl,HR.out⟩
theorem con_less {c x : Con} (h : x ∈ c.f5) : SizeOf.sizeOf x < SizeOf.sizeOf c := by
 have := List.sizeOf_lt_of_mem h
 obtain ⟨k,lo,hi,lw,hh,l⟩ := c
 simp only [PScopeResolves.S33.mk.sizeOf_spec]
 simp only at this
 omega
def SConAt (w0 : World) (n : Nat) : Prop := ∀ (c : Con),SizeOf.sizeOf c < n → ∀ (W : World) (Q : HP) (A5 : Option Addr) (c5 : Nat) (A5' : Option Addr) (c5' : Nat),S w0 W Q → kCon.C w0 A5 c.f5.length c.f5 → kCon.C w0 A5' c.f5.length c.f5 →
 Calls Tryz.prog 49 #[.agg #[.int .i64 c.f0,.int .i64 c.f1,.int .i64 c.f2,.bool c.f3,.bool c.f4,.slice A5 c.f5.length c5],.agg #[.int .i64 c.f0,.int .i64 c.f1,.int .i64 c.f2,.bool c.f3,.bool c.f4,.slice A5' c.f5.length c5']] W fun e w' => e = .returned (.bool true) ∧ S w0 w' Q
set_option maxHeartbeats 16000000 in
set_option maxRecDepth 100000 in
theorem scon_at (n : Nat) : SConAt w0 n := by
 induction n with
 | zero => intro c hc; omega
 | succ n ih =>
  intro c hc w R A5 c5 A5' c5' h hC hC'
  generalize hg : w.heap.size = g
  have H := Lib.hid (alloc_at (n := g + 1) (alloc_at (n := g) h (.cells #[.int .i64 c.f0,.int .i64 c.f1,.int .i64 c.f2,.bool c.f3,.bool c.f4,.slice A5 c.f5.length c5] 33) hg.symm) (.cells #[.int .i64 c.f0,.int .i64 c.f1,.int .i64 c.f2,.bool c.f3,.bool c.f4,.slice A5' c.f5.length c5'] 33) (by simp [hg]))
  have HI := Lib.hid (And.intro hC (And.intro hC' (And.intro ih hc)))
  have hl : c.f5.length ≤ 9223372036854775807 := hC.2.1
  have b0 := H.out.two.cell 0 rfl
  have b1 := H.out.two.cell 1 rfl
  have b2 := H.out.two.cell 2 rfl
  have b3 := H.out.two.cell 3 rfl
  have b4 := H.out.two.cell 4 rfl
  have b5 := H.out.two.cell 5 rfl
  have d0 := H.out.cell 0 rfl
  have d1 := H.out.cell 1 rfl
  have d2 := H.out.cell 2 rfl
  have d3 := H.out.cell 3 rfl
  have d4 := H.out.cell 4 rfl
  have d5 := H.out.cell 5 rfl
  clear h hC hC' ih hc
  go_enter Tryz.func49,Tryz.ntmps49
  go_wp2
  clear b0 b1 b2 b3 b4 b5 d0 d1 d2 d3 d4 d5
  go_loopw [5] (fun v wr => ∃ x : Int,0 ≤ x ∧ x ≤ c.f5.length ∧ v = .int .i64 x ∧ Hid (S w0 wr (Blk (g + 1) (.cells #[.int .i64 c.f0,.int .i64 c.f1,.int .i64 c.f2,.bool c.f3,.bool c.f4,.slice A5' c.f5.length c5'] 33) • (Blk g (.cells #[.int .i64 c.f0,.int .i64 c.f1,.int .i64 c.f2,.bool c.f3,.bool c.f4,.slice A5 c.f5.length c5] 33) • R)))) (fun v _ => c.f5.length - (intOf v).toNat)
  case atStart => exact ⟨0,Int.le_refl _,by omega,rfl,H⟩
  case round =>
   clear H
   obtain ⟨x,hx0,hx1,rfl,HR⟩ := hrel
   have b5 := HR.out.two.cell 5 rfl
   by_cases hlt : x < c.f5.length
   ·obtain ⟨ad,cs,eA,hcl0,hK,hcell0⟩ := Kd.C_get HI.out.1 zCon x hx0 hlt
    obtain ⟨ad',cs',eA',hcl0',hK',hcell0'⟩ := Kd.C_get HI.out.2.1 zCon x hx0 hlt
    cases eA
    cases eA'
    have hcell : ∀ (j : Nat) (u : Value),cs[j]? = some u → w0.cell? (ad.add (x.toNat * 6 + j)) = some u := hcell0
    have hcell' : ∀ (j : Nat) (u : Value),cs'[j]? = some u → w0.cell? (ad'.add (x.toNat * 6 + j)) = some u := hcell0'
    have HG := Lib.hid (getD_mem c.f5 zCon x hx0 hlt)
    generalize c.f5.getD x.toNat zCon = r at *
    obtain ⟨B5,p5,rfl, -,g5⟩ := PScopeResolves.k33_open (show kCon.K w0 r cs from hK)
    obtain ⟨B5',p5',rfl, -,g5'⟩ := PScopeResolves.k33_open (show kCon.K w0 r cs' from hK')
    have HG5 := Lib.hid (And.intro g5 g5')
    have HF : Hid (∀ W,Below w0.heap.size w0 W → (W.cell? (ad.add (x.toNat * 6)) = some (.int .i64 r.f0) ∧ W.cell? ⟨(ad.add (x.toNat * 6)).block,(ad.add (x.toNat * 6)).off + 1,none⟩ = some (.int .i64 r.f1) ∧ W.cell? ⟨(ad.add (x.toNat * 6)).block,(ad.add (x.toNat * 6)).off + 2,none⟩ = some (.int .i64 r.f2) ∧ W.cell? ⟨(ad.add (x.toNat * 6)).block,(ad.add (x.toNat * 6)).off + 3,none⟩ = some (.bool r.f3) ∧ W.cell? ⟨(ad.add (x.toNat * 6)).block,(ad.add (x.toNat * 6)).off + 4,none⟩ = some (.bool r.f4) ∧ W.cell? ⟨(ad.add (x.toNat * 6)).block,(ad.add (x.toNat * 6)).off + 5,none⟩ = some (.slice B5 r.f5.length p5)) ∧ (W.cell? (ad'.add (x.toNat * 6)) = some (.int .i64 r.f0) ∧ W.cell? ⟨(ad'.add (x.toNat * 6)).block,(ad'.add (x.toNat * 6)).off + 1,none⟩ = some (.int .i64 r.f1) ∧ W.cell? ⟨(ad'.add (x.toNat * 6)).block,(ad'.add (x.toNat * 6)).off + 2,none⟩ = some (.int .i64 r.f2) ∧ W.cell? ⟨(ad'.add (x.toNat * 6)).block,(ad'.add (x.toNat * 6)).off + 3,none⟩ = some (.bool r.f3) ∧ W.cell? ⟨(ad'.add (x.toNat * 6)).block,(ad'.add (x.toNat * 6)).off + 4,none⟩ = some (.bool r.f4) ∧ W.cell? ⟨(ad'.add (x.toNat * 6)).block,(ad'.add (x.toNat * 6)).off + 5,none⟩ = some (.slice B5' r.f5.length p5'))) := Lib.hid fun W hW => by
     refine ⟨⟨pw_cell_below hW (hcell 0 _ rfl), ?_, ?_, ?_, ?_, ?_⟩,⟨pw_cell_below hW (hcell' 0 _ rfl), ?_, ?_, ?_, ?_, ?_⟩⟩
     ·rw [← add_field ad _ 1 (by decide)]; exact pw_cell_below hW (hcell 1 _ rfl)
     ·rw [← add_field ad _ 2 (by decide)]; exact pw_cell_below hW (hcell 2 _ rfl)
     ·rw [← add_field ad _ 3 (by decide)]; exact pw_cell_below hW (hcell 3 _ rfl)
     ·rw [← add_field ad _ 4 (by decide)]; exact pw_cell_below hW (hcell 4 _ rfl)
     ·rw [← add_field ad _ 5 (by decide)]; exact pw_cell_below hW (hcell 5 _ rfl)
     ·rw [← add_field ad' _ 1 (by decide)]; exact pw_cell_below hW (hcell' 1 _ rfl)
     ·rw [← add_field ad' _ 2 (by decide)]; exact pw_cell_below hW (hcell' 2 _ rfl)
     ·rw [← add_field ad' _ 3 (by decide)]; exact pw_cell_below hW (hcell' 3 _ rfl)
     ·rw [← add_field ad' _ 4 (by decide)]; exact pw_cell_below hW (hcell' 4 _ rfl)
     ·rw [← add_field ad' _ 5 (by decide)]; exact pw_cell_below hW (hcell' 5 _ rfl)
    have HZ : Hid (SizeOf.sizeOf r < n) := Lib.hid (by have := con_less (List.mem_of_getElem? HG.out); have := HI.out.2.2.2; omega)
    have p126 := eq_true hx0
    have q126 : (x < (c.f5.length : Int)) = True := eq_true hlt
    clear hcell hcell0 hcl0 hK g5 hcell' hcell0' hcl0' hK' g5'
    go_wp2
    clear b5
    refine wp_region_held_drew (S := fun W => (W.cell? ⟨g,5,none⟩ = some (.slice (some ad) c.f5.length c5) ∧ W.cell? ⟨g + 1,5,none⟩ = some (.slice (some ad') c.f5.length c5')) ∧ (W.cell? (ad.add (x.toNat * 6)) = some (.int .i64 r.f0) ∧ W.cell? ⟨(ad.add (x.toNat * 6)).block,(ad.add (x.toNat * 6)).off + 1,none⟩ = some (.int .i64 r.f1) ∧ W.cell? ⟨(ad.add (x.toNat * 6)).block,(ad.add (x.toNat * 6)).off + 2,none⟩ = some (.int .i64 r.f2) ∧ W.cell? ⟨(ad.add (x.toNat * 6)).block,(ad.add (x.toNat * 6)).off + 3,none⟩ = some (.bool r.f3) ∧ W.cell? ⟨(ad.add (x.toNat * 6)).block,(ad.add (x.toNat * 6)).off + 4,none⟩ = some (.bool r.f4) ∧ W.cell? ⟨(ad.add (x.toNat * 6)).block,(ad.add (x.toNat * 6)).off + 5,none⟩ = some (.slice B5 r.f5.length p5)) ∧ (W.cell? (ad'.add (x.toNat * 6)) = some (.int .i64 r.f0) ∧ W.cell? ⟨(ad'.add (x.toNat * 6)).block,(ad'.add (x.toNat * 6)).off + 1,none⟩ = some (.int .i64 r.f1) ∧ W.cell? ⟨(ad'.add (x.toNat * 6)).block,(ad'.add (x.toNat * 6)).off + 2,none⟩ = some (.int .i64 r.f2) ∧ W.cell? ⟨(ad'.add (x.toNat * 6)).block,(ad'.add (x.toNat * 6)).off + 3,none⟩ = some (.bool r.f3) ∧ W.cell? ⟨(ad'.add (x.toNat * 6)).block,(ad'.add (x.toNat * 6)).off + 4,none⟩ = some (.bool r.f4) ∧ W.cell? ⟨(ad'.add (x.toNat * 6)).block,(ad'.add (x.toNat * 6)).off + 5,none⟩ = some (.slice B5' r.f5.length p5'))) (by kernel_rfl) ?_ (fun hHeld => ?_)
    ·exact ⟨⟨HR.out.drew.two.cell 5 rfl,HR.out.drew.cell 5 rfl⟩,HF.out _ HR.out.drew.below⟩
    refine wpAnyH_take (i := 0) (oi := ⟨some 55,.fieldAddr 33 (.tmp 2) 5,0,"ref.go:388",#[],none⟩) (v := ?_) rfl (by kernel_rfl) (by kernel_rfl) (by kernel_rfl) (fun _ _ _ h => h) (Or.inl ⟨by rfl, ?_⟩) (by assumption) ?_
    rotate_left 1
    ·intro w hSw
     try dsimp only at hSw
     go_simp
     all_goals with_reducible rfl
    try simp only [Act.put,List.setIfInBounds_toArray,List.set_cons_succ,List.set_cons_zero]
    refine wpAnyH_take (i := 1) (oi := ⟨some 56,.load 31 (.tmp 55),31,"ref.go:388",#[⟨0,.data⟩],none⟩) (v := ?_) rfl (by kernel_rfl) (by kernel_rfl) (by kernel_rfl) (fun _ _ _ h => h) (Or.inl ⟨by rfl, ?_⟩) (by assumption) ?_
    rotate_left 1
    ·intro w hSw
     try dsimp only at hSw
     go_simp
     all_goals with_reducible rfl
    try simp only [Act.put,List.setIfInBounds_toArray,List.set_cons_succ,List.set_cons_zero]
    refine wpAnyH_take (i := 2) (oi := ⟨some 57,.move (.tmp 5),3,"ref.go:388",#[],none⟩) (v := ?_) rfl (by kernel_rfl) (by kernel_rfl) (by kernel_rfl) (fun _ _ _ h => h) (Or.inl ⟨by rfl, ?_⟩) (by assumption) ?_
    rotate_left 1
    ·intro w hSw
     try dsimp only at hSw
     go_simp
     all_goals with_reducible rfl
    try simp only [Act.put,List.setIfInBounds_toArray,List.set_cons_succ,List.set_cons_zero]
    refine wpAnyH_take (i := 3) (oi := ⟨some 58,.indexAddr 31 (.tmp 56) (.tmp 57),0,"ref.go:388",#[⟨1,.data⟩,⟨2,.data⟩],none⟩) (v := ?_) rfl (by kernel_rfl) (by kernel_rfl) (by kernel_rfl) (fun _ _ _ h => h) (Or.inl ⟨by rfl, ?_⟩) (by assumption) ?_
    rotate_left 1
    ·intro w hSw
     try dsimp only at hSw
     go_simp
     all_goals with_reducible rfl
    try simp only [Act.put,List.setIfInBounds_toArray,List.set_cons_succ,List.set_cons_zero]
    refine wpAnyH_take (i := 4) (oi := ⟨some 59,.load 33 (.tmp 58),33,"ref.go:388",#[⟨3,.data⟩],none⟩) (v := ?_) rfl (by kernel_rfl) (by kernel_rfl) (by kernel_rfl) (fun _ _ _ h => h) (Or.inl ⟨by rfl, ?_⟩) (by assumption) ?_
    rotate_left 1
    ·intro w hSw
     try dsimp only at hSw
     go_simp
     all_goals with_reducible rfl
    try simp only [Act.put,List.setIfInBounds_toArray,List.set_cons_succ,List.set_cons_zero]
    refine wpAnyH_take (i := 5) (oi := ⟨some 60,.fieldAddr 33 (.tmp 3) 5,0,"ref.go:388",#[],none⟩) (v := ?_) rfl (by kernel_rfl) (by kernel_rfl) (by kernel_rfl) (fun _ _ _ h => h) (Or.inl ⟨by rfl, ?_⟩) (by assumption) ?_
    rotate_left 1
    ·intro w hSw
     try dsimp only at hSw
     go_simp
     all_goals with_reducible rfl
    try simp only [Act.put,List.setIfInBounds_toArray,List.set_cons_succ,List.set_cons_zero]
    refine wpAnyH_take (i := 6) (oi := ⟨some 61,.load 31 (.tmp 60),31,"ref.go:388",#[⟨5,.data⟩],none⟩) (v := ?_) rfl (by kernel_rfl) (by kernel_rfl) (by kernel_rfl) (fun _ _ _ h => h) (Or.inl ⟨by rfl, ?_⟩) (by assumption) ?_
    rotate_left 1
    ·intro w hSw
     try dsimp only at hSw
     go_simp
     all_goals with_reducible rfl
    try simp only [Act.put,List.setIfInBounds_toArray,List.set_cons_succ,List.set_cons_zero]
    refine wpAnyH_take (i := 7) (oi := ⟨some 62,.move (.tmp 5),3,"ref.go:388",#[],none⟩) (v := ?_) rfl (by kernel_rfl) (by kernel_rfl) (by kernel_rfl) (fun _ _ _ h => h) (Or.inl ⟨by rfl, ?_⟩) (by assumption) ?_
    rotate_left 1
    ·intro w hSw
     try dsimp only at hSw
     go_simp
     all_goals with_reducible rfl
    try simp only [Act.put,List.setIfInBounds_toArray,List.set_cons_succ,List.set_cons_zero]
    refine wpAnyH_take (i := 8) (oi := ⟨some 63,.indexAddr 31 (.tmp 61) (.tmp 62),0,"ref.go:388",#[⟨6,.data⟩,⟨7,.data⟩],none⟩) (v := ?_) rfl (by kernel_rfl) (by kernel_rfl) (by kernel_rfl) (fun _ _ _ h => h) (Or.inl ⟨by rfl, ?_⟩) (by assumption) ?_
    rotate_left 1
    ·intro w hSw
     try dsimp only at hSw
     go_simp
     all_goals with_reducible rfl
    try simp only [Act.put,List.setIfInBounds_toArray,List.set_cons_succ,List.set_cons_zero]
    refine wpAnyH_take (i := 9) (oi := ⟨some 64,.load 33 (.tmp 63),33,"ref.go:388",#[⟨8,.data⟩],none⟩) (v := ?_) rfl (by kernel_rfl) (by kernel_rfl) (by kernel_rfl) (fun _ _ _ h => h) (Or.inl ⟨by rfl, ?_⟩) (by assumption) ?_
    rotate_left 1
    ·intro w hSw
     try dsimp only at hSw
     go_simp
     all_goals with_reducible rfl
    try simp only [Act.put,List.setIfInBounds_toArray,List.set_cons_succ,List.set_cons_zero]
    refine wpAnyH_ready (rs := [10]) (by kernel_rfl) (by simp) ?_
    refine AllReadyH.cons (o := ⟨some 65,.call { callee := .value (.func 49),args := #[.tmp 59,.tmp 64],argTypes := #[33,33] },4,"ref.go:388",#[⟨4,.data⟩,⟨9,.data⟩],none⟩) rfl (fun K hK => ?_) AllReadyH.nil
    go_simp
    refine (HI.out.2.2.1 r HZ.out _ _ B5 p5 B5' p5' HR.out.drew HG5.out.1 HG5.out.2).mono ?_
    rintro e w3 ⟨rfl,h3⟩
    refine hK.out _ _ ?_ (fun hHeld => ?_)
    ·exact ⟨⟨h3.two.cell 5 rfl,h3.cell 5 rfl⟩,HF.out _ h3.below⟩
    clear hK K
    try simp only [Act.put,List.setIfInBounds_toArray,List.set_cons_succ,List.set_cons_zero]
    refine wpAnyH_take (i := 11) (oi := ⟨some 66,.unOp .not 4 (.tmp 65),4,"ref.go:388",#[⟨10,.data⟩],none⟩) (v := ?_) rfl (by kernel_rfl) (by kernel_rfl) (by kernel_rfl) (fun _ _ _ h => h) (Or.inl ⟨by rfl, ?_⟩) (by assumption) ?_
    rotate_left 1
    ·intro w hSw
     try dsimp only at hSw
     go_simp
     all_goals with_reducible rfl
    try simp only [Act.put,List.setIfInBounds_toArray,List.set_cons_succ,List.set_cons_zero]
    refine wpAnyH_done (by kernel_rfl) ?_ _
    have HD := Lib.hid h3
    clear h3 hHeld HR
    go_wp2
    exact ⟨⟨x + 1,by omega,by omega,by go_num,HD⟩,by simp only [intOf]; omega⟩
   ·have hlt' : (x < (c.f5.length : Int)) = False := eq_false hlt
    go_wp2
    go_ret
    exact ⟨rfl,HR.out.drop.drop⟩
end Go.Proofs.YtbjddomocggjmaaGreat.Sc
end
section
namespace Go.Proofs.YtbjddomocggjmaaGreat.Sc
open Go.RowKit Go.ChangeShapes Go.WideShapes Go.Proofs.YtbjddomocggjmaaGreat.Sep
open Go.Proofs.YtbjddomocggjmaaGreatW.PrintWords
variable {B : Nat} {w0 w : World} {R : HP}
theorem val_less {c x : Val} (h : x ∈ c.f4) : SizeOf.sizeOf x < SizeOf.sizeOf c := by
 have := List.sizeOf_lt_of_mem h
 obtain ⟨k,n,s,l3,l4⟩ := c
 simp only [PScopeResolves.S109.mk.sizeOf_spec]
 simp only at this
 omega
def SValAt (w0 : World) (n : Nat) : Prop := ∀ (v : Val),SizeOf.sizeOf v < n → ∀ (W : World) (Q : HP) (A3 : Option Addr) (c3 : Nat) (A4 : Option Addr) (c4 : Nat) (A3' : Option Addr) (c3' : Nat) (A4' : Option Addr) (c4' : Nat),S w0 W Q → Kd.string.C w0 A3 v.f3.length v.f3 → Kd.string.C w0 A3' v.f3.length v.f3 → kVal.C w0 A4 v.f4.length v.f4 → kVal.C w0 A4' v.f4.length v.f4 →
 Calls Tryz.prog 72 #[.agg #[.int .i64 v.f0,.int .i64 v.f1,.string v.f2,.slice A3 v.f3.length c3,.slice A4 v.f4.length c4],.agg #[.int .i64 v.f0,.int .i64 v.f1,.string v.f2,.slice A3' v.f3.length c3',.slice A4' v.f4.length c4']] W fun e w' => e = .returned (.bool true) ∧ S w0 w' Q
set_option maxHeartbeats 16000000 in
set_option maxRecDepth 100000 in
theorem sval_at (n : Nat) : SValAt w0 n := by
 induction n with
 | zero => intro c hc; omega
 | succ n ih =>
  intro v hc w R A3 c3 A4 c4 A3' c3' A4' c4' h h3 h3' hC hC'
  generalize hg : w.heap.size = g
  have H := Lib.hid (alloc_at (n := g + 1) (alloc_at (n := g) h (.cells #[.int .i64 v.f0,.int .i64 v.f1,.string v.f2,.slice A3 v.f3.length c3,.slice A4 v.f4.length c4] 109) hg.symm) (.cells #[.int .i64 v.f0,.int .i64 v.f1,.string v.f2,.slice A3' v.f3.length c3',.slice A4' v.f4.length c4'] 109) (by simp [hg]))
  have HI := Lib.hid (And.intro hC (And.intro hC' (And.intro ih hc)))
  have HT := Lib.hid (And.intro h3 h3')
  have hl : v.f4.length ≤ 9223372036854775807 := hC.2.1
  have b0 := H.out.two.cell 0 rfl
  have d0 := H.out.cell 0 rfl
  have b1 := H.out.two.cell 1 rfl
  have d1 := H.out.cell 1 rfl
  have b2 := H.out.two.cell 2 rfl
  have d2 := H.out.cell 2 rfl
  have b3 := H.out.two.cell 3 rfl
  have d3 := H.out.cell 3 rfl
  have b4 := H.out.two.cell 4 rfl
  have d4 := H.out.cell 4 rfl
  clear h hC hC' ih hc h3 h3'
  go_enter Tryz.func72,Tryz.ntmps72
  go_wp2_with fail
  refine (stexts_calls A3 c3 A3' c3' v.f3 H.out HT.out.1 HT.out.2).mono ?_
  rintro e w1 ⟨rfl,h1⟩
  have H1 := Lib.hid h1
  clear h1 H b0 b1 b2 b3 b4 d0 d1 d2 d3 d4
  have b4 := H1.out.two.cell 4 rfl
  have d4 := H1.out.cell 4 rfl
  go_wp2
  clear b4 d4
  go_loopw [5] (fun u wr => ∃ x : Int,0 ≤ x ∧ x ≤ v.f4.length ∧ u = .int .i64 x ∧ Hid (S w0 wr (Blk (g + 1) (.cells #[.int .i64 v.f0,.int .i64 v.f1,.string v.f2,.slice A3' v.f3.length c3',.slice A4' v.f4.length c4'] 109) • (Blk g (.cells #[.int .i64 v.f0,.int .i64 v.f1,.string v.f2,.slice A3 v.f3.length c3,.slice A4 v.f4.length c4] 109) • R)))) (fun u _ => v.f4.length - (intOf u).toNat)
  case atStart => exact ⟨0,Int.le_refl _,by omega,rfl,H1⟩
  case round =>
   clear H1
   obtain ⟨x,hx0,hx1,rfl,HR⟩ := hrel
   have b4 := HR.out.two.cell 4 rfl
   by_cases hlt : x < v.f4.length
   ·obtain ⟨ad,cs,eA,hcl0,hK,hcell0⟩ := Kd.C_get HI.out.1 zVal x hx0 hlt
    obtain ⟨ad',cs',eA',hcl0',hK',hcell0'⟩ := Kd.C_get HI.out.2.1 zVal x hx0 hlt
    cases eA
    cases eA'
    have hcell : ∀ (j : Nat) (u : Value),cs[j]? = some u → w0.cell? (ad.add (x.toNat * 5 + j)) = some u := hcell0
    have hcell' : ∀ (j : Nat) (u : Value),cs'[j]? = some u → w0.cell? (ad'.add (x.toNat * 5 + j)) = some u := hcell0'
    have HG := Lib.hid (getD_mem v.f4 zVal x hx0 hlt)
    generalize v.f4.getD x.toNat zVal = r at *
    obtain ⟨B3,p3,B4,p4,rfl, -,k3, -,k4⟩ := PScopeResolves.k109_open (show kVal.K w0 r cs from hK)
    obtain ⟨B3',p3',B4',p4',rfl, -,k3', -,k4'⟩ := PScopeResolves.k109_open (show kVal.K w0 r cs' from hK')
    have HG5 := Lib.hid (And.intro k3 (And.intro k3' (And.intro k4 k4')))
    have HF : Hid (∀ W,Below w0.heap.size w0 W → (W.cell? (ad.add (x.toNat * 5)) = some (.int .i64 r.f0) ∧ W.cell? ⟨(ad.add (x.toNat * 5)).block,(ad.add (x.toNat * 5)).off + 1,none⟩ = some (.int .i64 r.f1) ∧ W.cell? ⟨(ad.add (x.toNat * 5)).block,(ad.add (x.toNat * 5)).off + 2,none⟩ = some (.string r.f2) ∧ W.cell? ⟨(ad.add (x.toNat * 5)).block,(ad.add (x.toNat * 5)).off + 3,none⟩ = some (.slice B3 r.f3.length p3) ∧ W.cell? ⟨(ad.add (x.toNat * 5)).block,(ad.add (x.toNat * 5)).off + 4,none⟩ = some (.slice B4 r.f4.length p4)) ∧ (W.cell? (ad'.add (x.toNat * 5)) = some (.int .i64 r.f0) ∧ W.cell? ⟨(ad'.add (x.toNat * 5)).block,(ad'.add (x.toNat * 5)).off + 1,none⟩ = some (.int .i64 r.f1) ∧ W.cell? ⟨(ad'.add (x.toNat * 5)).block,(ad'.add (x.toNat * 5)).off + 2,none⟩ = some (.string r.f2) ∧ W.cell? ⟨(ad'.add (x.toNat * 5)).block,(ad'.add (x.toNat * 5)).off + 3,none⟩ = some (.slice B3' r.f3.length p3') ∧ W.cell? ⟨(ad'.add (x.toNat * 5)).block,(ad'.add (x.toNat * 5)).off + 4,none⟩ = some (.slice B4' r.f4.length p4'))) := Lib.hid fun W hW => by
     refine ⟨⟨pw_cell_below hW (hcell 0 _ rfl), ?_, ?_, ?_, ?_⟩,⟨pw_cell_below hW (hcell' 0 _ rfl), ?_, ?_, ?_, ?_⟩⟩
     ·rw [← add_field ad _ 1 (by decide)]; exact pw_cell_below hW (hcell 1 _ rfl)
     ·rw [← add_field ad _ 2 (by decide)]; exact pw_cell_below hW (hcell 2 _ rfl)
     ·rw [← add_field ad _ 3 (by decide)]; exact pw_cell_below hW (hcell 3 _ rfl)
     ·rw [← add_field ad _ 4 (by decide)]; exact pw_cell_below hW (hcell 4 _ rfl)
     ·rw [← add_field ad' _ 1 (by decide)]; exact pw_cell_below hW (hcell' 1 _ rfl)
     ·rw [← add_field ad' _ 2 (by decide)]; exact pw_cell_below hW (hcell' 2 _ rfl)
     ·rw [← add_field ad' _ 3 (by decide)]; exact pw_cell_below hW (hcell' 3 _ rfl)
     ·rw [← add_field ad' _ 4 (by decide)]; exact pw_cell_below hW (hcell' 4 _ rfl)
    have HZ : Hid (SizeOf.sizeOf r < n) := Lib.hid (by have := val_less (List.mem_of_getElem? HG.out); have := HI.out.2.2.2; omega)
    have p126 := eq_true hx0
    have q126 : (x < (v.f4.length : Int)) = True := eq_true hlt
    clear hcell hcell0 hcl0 hK hcell' hcell0' hcl0' hK' k3 k4 k3' k4'
    go_wp2
    clear b4
    refine wp_region_held_drew (S := fun W => (W.cell? ⟨g,4,none⟩ = some (.slice (some ad) v.f4.length c4) ∧ W.cell? ⟨g + 1,4,none⟩ = some (.slice (some ad') v.f4.length c4')) ∧ (W.cell? (ad.add (x.toNat * 5)) = some (.int .i64 r.f0) ∧ W.cell? ⟨(ad.add (x.toNat * 5)).block,(ad.add (x.toNat * 5)).off + 1,none⟩ = some (.int .i64 r.f1) ∧ W.cell? ⟨(ad.add (x.toNat * 5)).block,(ad.add (x.toNat * 5)).off + 2,none⟩ = some (.string r.f2) ∧ W.cell? ⟨(ad.add (x.toNat * 5)).block,(ad.add (x.toNat * 5)).off + 3,none⟩ = some (.slice B3 r.f3.length p3) ∧ W.cell? ⟨(ad.add (x.toNat * 5)).block,(ad.add (x.toNat * 5)).off + 4,none⟩ = some (.slice B4 r.f4.length p4)) ∧ (W.cell? (ad'.add (x.toNat * 5)) = some (.int .i64 r.f0) ∧ W.cell? ⟨(ad'.add (x.toNat * 5)).block,(ad'.add (x.toNat * 5)).off + 1,none⟩ = some (.int .i64 r.f1) ∧ W.cell? ⟨(ad'.add (x.toNat * 5)).block,(ad'.add (x.toNat * 5)).off + 2,none⟩ = some (.string r.f2) ∧ W.cell? ⟨(ad'.add (x.toNat * 5)).block,(ad'.add (x.toNat * 5)).off + 3,none⟩ = some (.slice B3' r.f3.length p3') ∧ W.cell? ⟨(ad'.add (x.toNat * 5)).block,(ad'.add (x.toNat * 5)).off + 4,none⟩ = some (.slice B4' r.f4.length p4'))) (by kernel_rfl) ?_ (fun hHeld => ?_)
    ·exact ⟨⟨HR.out.drew.two.cell 4 rfl,HR.out.drew.cell 4 rfl⟩,HF.out _ HR.out.drew.below⟩
    refine wpAnyH_take (i := 0) (oi := ⟨some 49,.fieldAddr 109 (.tmp 2) 4,0,"ref.go:413",#[],none⟩) (v := ?_) rfl (by kernel_rfl) (by kernel_rfl) (by kernel_rfl) (fun _ _ _ h => h) (Or.inl ⟨by rfl, ?_⟩) (by assumption) ?_
    rotate_left 1
    ·intro w hSw
     try dsimp only at hSw
     go_simp
     all_goals with_reducible rfl
    try simp only [Act.put,List.setIfInBounds_toArray,List.set_cons_succ,List.set_cons_zero]
    refine wpAnyH_take (i := 1) (oi := ⟨some 50,.load 81 (.tmp 49),81,"ref.go:413",#[⟨0,.data⟩],none⟩) (v := ?_) rfl (by kernel_rfl) (by kernel_rfl) (by kernel_rfl) (fun _ _ _ h => h) (Or.inl ⟨by rfl, ?_⟩) (by assumption) ?_
    rotate_left 1
    ·intro w hSw
     try dsimp only at hSw
     go_simp
     all_goals with_reducible rfl
    try simp only [Act.put,List.setIfInBounds_toArray,List.set_cons_succ,List.set_cons_zero]
    refine wpAnyH_take (i := 2) (oi := ⟨some 51,.move (.tmp 5),3,"ref.go:413",#[],none⟩) (v := ?_) rfl (by kernel_rfl) (by kernel_rfl) (by kernel_rfl) (fun _ _ _ h => h) (Or.inl ⟨by rfl, ?_⟩) (by assumption) ?_
    rotate_left 1
    ·intro w hSw
     try dsimp only at hSw
     go_simp
     all_goals with_reducible rfl
    try simp only [Act.put,List.setIfInBounds_toArray,List.set_cons_succ,List.set_cons_zero]
    refine wpAnyH_take (i := 3) (oi := ⟨some 52,.indexAddr 81 (.tmp 50) (.tmp 51),0,"ref.go:413",#[⟨1,.data⟩,⟨2,.data⟩],none⟩) (v := ?_) rfl (by kernel_rfl) (by kernel_rfl) (by kernel_rfl) (fun _ _ _ h => h) (Or.inl ⟨by rfl, ?_⟩) (by assumption) ?_
    rotate_left 1
    ·intro w hSw
     try dsimp only at hSw
     go_simp
     all_goals with_reducible rfl
    try simp only [Act.put,List.setIfInBounds_toArray,List.set_cons_succ,List.set_cons_zero]
    refine wpAnyH_take (i := 4) (oi := ⟨some 53,.load 109 (.tmp 52),109,"ref.go:413",#[⟨3,.data⟩],none⟩) (v := ?_) rfl (by kernel_rfl) (by kernel_rfl) (by kernel_rfl) (fun _ _ _ h => h) (Or.inl ⟨by rfl, ?_⟩) (by assumption) ?_
    rotate_left 1
    ·intro w hSw
     try dsimp only at hSw
     go_simp
     all_goals with_reducible rfl
    try simp only [Act.put,List.setIfInBounds_toArray,List.set_cons_succ,List.set_cons_zero]
    refine wpAnyH_take (i := 5) (oi := ⟨some 54,.fieldAddr 109 (.tmp 3) 4,0,"ref.go:413",#[],none⟩) (v := ?_) rfl (by kernel_rfl) (by kernel_rfl) (by kernel_rfl) (fun _ _ _ h => h) (Or.inl ⟨by rfl, ?_⟩) (by assumption) ?_
    rotate_left 1
    ·intro w hSw
     try dsimp only at hSw
     go_simp
     all_goals with_reducible rfl
    try simp only [Act.put,List.setIfInBounds_toArray,List.set_cons_succ,List.set_cons_zero]
    refine wpAnyH_take (i := 6) (oi := ⟨some 55,.load 81 (.tmp 54),81,"ref.go:413",#[⟨5,.data⟩],none⟩) (v := ?_) rfl (by kernel_rfl) (by kernel_rfl) (by kernel_rfl) (fun _ _ _ h => h) (Or.inl ⟨by rfl, ?_⟩) (by assumption) ?_
    rotate_left 1
    ·intro w hSw
     try dsimp only at hSw
     go_simp
     all_goals with_reducible rfl
    try simp only [Act.put,List.setIfInBounds_toArray,List.set_cons_succ,List.set_cons_zero]
    refine wpAnyH_take (i := 7) (oi := ⟨some 56,.move (.tmp 5),3,"ref.go:413",#[],none⟩) (v := ?_) rfl (by kernel_rfl) (by kernel_rfl) (by kernel_rfl) (fun _ _ _ h => h) (Or.inl ⟨by rfl, ?_⟩) (by assumption) ?_
    rotate_left 1
    ·intro w hSw
     try dsimp only at hSw
     go_simp
     all_goals with_reducible rfl
    try simp only [Act.put,List.setIfInBounds_toArray,List.set_cons_succ,List.set_cons_zero]
    refine wpAnyH_take (i := 8) (oi := ⟨some 57,.indexAddr 81 (.tmp 55) (.tmp 56),0,"ref.go:413",#[⟨6,.data⟩,⟨7,.data⟩],none⟩) (v := ?_) rfl (by kernel_rfl) (by kernel_rfl) (by kernel_rfl) (fun _ _ _ h => h) (Or.inl ⟨by rfl, ?_⟩) (by assumption) ?_
    rotate_left 1
    ·intro w hSw
     try dsimp only at hSw
     go_simp
     all_goals with_reducible rfl
    try simp only [Act.put,List.setIfInBounds_toArray,List.set_cons_succ,List.set_cons_zero]
    refine wpAnyH_take (i := 9) (oi := ⟨some 58,.load 109 (.tmp 57),109,"ref.go:413",#[⟨8,.data⟩],none⟩) (v := ?_) rfl (by kernel_rfl) (by kernel_rfl) (by kernel_rfl) (fun _ _ _ h => h) (Or.inl ⟨by rfl, ?_⟩) (by assumption) ?_
    rotate_left 1
    ·intro w hSw
     try dsimp only at hSw
     go_simp
     all_goals with_reducible rfl
    try simp only [Act.put,List.setIfInBounds_toArray,List.set_cons_succ,List.set_cons_zero]
    refine wpAnyH_ready (rs := [10]) (by kernel_rfl) (by simp) ?_
    refine AllReadyH.cons (o := ⟨some 59,.call { callee := .value (.func 72),args := #[.tmp 53,.tmp 58],argTypes := #[109,109] },4,"ref.go:413",#[⟨4,.data⟩,⟨9,.data⟩],none⟩) rfl (fun K hK => ?_) AllReadyH.nil
    go_simp
    refine (HI.out.2.2.1 r HZ.out _ _ B3 p3 B4 p4 B3' p3' B4' p4' HR.out.drew HG5.out.1 HG5.out.2.1 HG5.out.2.2.1 HG5.out.2.2.2).mono ?_
    rintro e w3 ⟨rfl,h3⟩
    refine hK.out _ _ ?_ (fun hHeld => ?_)
    ·exact ⟨⟨h3.two.cell 4 rfl,h3.cell 4 rfl⟩,HF.out _ h3.below⟩
    clear hK K
    try simp only [Act.put,List.setIfInBounds_toArray,List.set_cons_succ,List.set_cons_zero]
    refine wpAnyH_take (i := 11) (oi := ⟨some 60,.unOp .not 4 (.tmp 59),4,"ref.go:413",#[⟨10,.data⟩],none⟩) (v := ?_) rfl (by kernel_rfl) (by kernel_rfl) (by kernel_rfl) (fun _ _ _ h => h) (Or.inl ⟨by rfl, ?_⟩) (by assumption) ?_
    rotate_left 1
    ·intro w hSw
     try dsimp only at hSw
     go_simp
     all_goals with_reducible rfl
    try simp only [Act.put,List.setIfInBounds_toArray,List.set_cons_succ,List.set_cons_zero]
    refine wpAnyH_done (by kernel_rfl) ?_ _
    have HD := Lib.hid h3
    clear h3 hHeld HR
    go_wp2
    exact ⟨⟨x + 1,by omega,by omega,by go_num,HD⟩,by simp only [intOf]; omega⟩
   ·have hlt' : (x < (v.f4.length : Int)) = False := eq_false hlt
    go_wp2
    go_ret
    exact ⟨rfl,HR.out.drop.drop⟩
theorem svalue_calls (v : Val) (A3 : Option Addr) (c3 : Nat) (A4 : Option Addr) (c4 : Nat) (A3' : Option Addr) (c3' : Nat) (A4' : Option Addr) (c4' : Nat) (h : S w0 w R) (h3 : Kd.string.C w0 A3 v.f3.length v.f3) (h3' : Kd.string.C w0 A3' v.f3.length v.f3) (h4 : kVal.C w0 A4 v.f4.length v.f4) (h4' : kVal.C w0 A4' v.f4.length v.f4) :
  Calls Tryz.prog 72 #[.agg #[.int .i64 v.f0,.int .i64 v.f1,.string v.f2,.slice A3 v.f3.length c3,.slice A4 v.f4.length c4],.agg #[.int .i64 v.f0,.int .i64 v.f1,.string v.f2,.slice A3' v.f3.length c3',.slice A4' v.f4.length c4']] w fun e w' => e = .returned (.bool true) ∧ S w0 w' R :=
 sval_at _ v (Nat.lt_succ_self _) w R A3 c3 A4 c4 A3' c3' A4' c4' h h3 h3' h4 h4'
end Go.Proofs.YtbjddomocggjmaaGreat.Sc
end
