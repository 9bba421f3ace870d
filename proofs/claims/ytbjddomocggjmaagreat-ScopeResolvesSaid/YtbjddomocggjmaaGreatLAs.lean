/- sameParts of the reference of layer 8, of equal values: walked. -/
import Derived.Test.YtbjddomocggjmaaGreatLAr
namespace Go.Proofs.YtbjddomocggjmaaGreat.Sc
open Go.RowKit Go.ChangeShapes Go.WideShapes Go.Proofs.YtbjddomocggjmaaGreat.Sep
open Go.Proofs.YtbjddomocggjmaaGreatW.PrintWords
variable {B : Nat} {w0 w : World} {R : HP}
theorem yields_load {P : Program} {ops : Array Oper} {S : World → Prop} {o : Oper} {a : Act} (hw : Region.wanted o (yielded ops a.tmps) = true) (ty : TypeId) (x : Operand) (ho : o.op = .load ty x)
  (ad : Addr) (hx : a.eval x = .pointer (some ad)) (cs : List Value) (hc : ∀ w,S w → ∀ j v,cs[j]? = some v → w.cell? (ad.add j) = some v) (d : TypeDesc)
  (hu : P.underlying ty = some d) (hd : (match d with | .struct _ | .array _ _ => true | _ => false) = true) (hi : (P.info? ty).map (·.size) = some cs.length) : YieldsIf P ops S o (.agg cs.toArray) a :=
 .inl ⟨hw,fun w hS => by
  unfold execOp
  simp only [ho,hx,Instr.loadAt,Instr.sureAddr,Sem.run_bind,Sem.run_pure,Result.andThen_ok,run_loadVar_cells w ad ty cs d (hc w hS) hu hd hi]⟩
def STyAt (w0 : World) (n : Nat) : Prop := ∀ (t : Ty),SizeOf.sizeOf t < n → ∀ (W : World) (Q : HP) (cs cs' : List Value),S w0 W Q → kTy.K w0 t cs → kTy.K w0 t cs' →
 Calls Tryz.prog 23 #[.agg cs.toArray,.agg cs'.toArray] W fun e w' => e = .returned (.bool true) ∧ S w0 w' Q
set_option maxHeartbeats 16000000 in
set_option maxRecDepth 100000 in
theorem sparts_calls (n : Nat) (ih : STyAt w0 n) (A : Option Addr) (c : Nat) (A' : Option Addr) (c' : Nat) (l : List (Pt Ty)) (hz : ∀ p ∈ l,SizeOf.sizeOf p.t < n) (h : S w0 w R) (hC : kPt.C w0 A l.length l) (hC' : kPt.C w0 A' l.length l) :
  Calls Tryz.prog 51 #[.slice A l.length c,.slice A' l.length c'] w fun e w' => e = .returned (.bool true) ∧ S w0 w' R := by
 have hl : l.length ≤ 9223372036854775807 := hC.2.1
 have HI := Lib.hid (And.intro hC (And.intro hC' (And.intro ih hz)))
 have H := Lib.hid h
 clear h hC hC' ih hz
 go_enter Tryz.func51,Tryz.ntmps51
 go_wp2
 go_loopw [5] (fun v wr => ∃ x : Int,0 ≤ x ∧ x ≤ l.length ∧ v = .int .i64 x ∧ Hid (S w0 wr R)) (fun v _ => l.length - (intOf v).toNat)
 case atStart => exact ⟨0,Int.le_refl _,by omega,rfl,H⟩
 case round =>
  clear H
  obtain ⟨x,hx0,hx1,rfl,HR⟩ := hrel
  by_cases hlt : x < l.length
  ·obtain ⟨ad,cs,eA,hcl0,hK,hcell0⟩ := Kd.C_get HI.out.1 zPt x hx0 hlt
   obtain ⟨ad',cs',eA',hcl0',hK',hcell0'⟩ := Kd.C_get HI.out.2.1 zPt x hx0 hlt
   cases eA
   cases eA'
   have hcell : ∀ (j : Nat) (u : Value),cs[j]? = some u → w0.cell? (ad.add (x.toNat * 18 + j)) = some u := hcell0
   have hcell' : ∀ (j : Nat) (u : Value),cs'[j]? = some u → w0.cell? (ad'.add (x.toNat * 18 + j)) = some u := hcell0'
   have HG := Lib.hid (getD_mem l zPt x hx0 hlt)
   generalize l.getD x.toNat zPt = r at *
   obtain ⟨ts,D,q,hP,hn,hd, -⟩ := pt_more (show kPt.K w0 r cs from hK)
   obtain ⟨ts',D',q',hP',hn',hd', -⟩ := pt_more (show kPt.K w0 r cs' from hK')
   have HK := Lib.hid (And.intro (And.intro hP.kt hP'.kt) (And.intro (And.intro hP.tlen hP'.tlen) (And.intro hd hd')))
   have hl5 : r.d.length ≤ 9223372036854775807 := hd.2.1
   have HF : Hid (∀ W,Below w0.heap.size w0 W → ((W.cell? (ad.add (x.toNat * 18)) = some (.string r.n) ∧ W.cell? ⟨(ad.add (x.toNat * 18)).block,(ad.add (x.toNat * 18)).off + 16,none⟩ = some (.bool r.o) ∧ W.cell? ⟨(ad.add (x.toNat * 18)).block,(ad.add (x.toNat * 18)).off + 17,none⟩ = some (.slice D r.d.length q)) ∧ (W.cell? (ad'.add (x.toNat * 18)) = some (.string r.n) ∧ W.cell? ⟨(ad'.add (x.toNat * 18)).block,(ad'.add (x.toNat * 18)).off + 16,none⟩ = some (.bool r.o) ∧ W.cell? ⟨(ad'.add (x.toNat * 18)).block,(ad'.add (x.toNat * 18)).off + 17,none⟩ = some (.slice D' r.d.length q'))) ∧ Hid ((∀ (j : Nat) (v : Value),ts[j]? = some v → W.cell? ((⟨(ad.add (x.toNat * 18)).block,(ad.add (x.toNat * 18)).off + 1,none⟩ : Addr).add j) = some v) ∧ ∀ (j : Nat) (v : Value),ts'[j]? = some v → W.cell? ((⟨(ad'.add (x.toNat * 18)).block,(ad'.add (x.toNat * 18)).off + 1,none⟩ : Addr).add j) = some v)) := Lib.hid fun W hW => by
    refine ⟨⟨⟨pw_cell_below hW (hcell 0 _ hn), ?_, ?_⟩,⟨pw_cell_below hW (hcell' 0 _ hn'), ?_, ?_⟩⟩,Lib.hid ⟨fun j v hv => ?_,fun j v hv => ?_⟩⟩
    ·rw [← add_field ad _ 16 (by decide)]; exact pw_cell_below hW (hcell 16 _ hP.opt)
    ·rw [← add_field ad _ 17 (by decide)]; exact pw_cell_below hW (hcell 17 _ hP.dft)
    ·rw [← add_field ad' _ 16 (by decide)]; exact pw_cell_below hW (hcell' 16 _ hP'.opt)
    ·rw [← add_field ad' _ 17 (by decide)]; exact pw_cell_below hW (hcell' 17 _ hP'.dft)
    ·have := pw_cell_below hW (hcell (1 + j) v (hP.typ j v hv))
     rw [add_field ad _ _ (by omega), ← Nat.add_assoc] at this
     rw [WideShapes.add_plain]; exact this
    ·have := pw_cell_below hW (hcell' (1 + j) v (hP'.typ j v hv))
     rw [add_field ad' _ _ (by omega), ← Nat.add_assoc] at this
     rw [WideShapes.add_plain]; exact this
   have HZ : Hid (SizeOf.sizeOf r.t < n) := Lib.hid (HI.out.2.2.2 r (List.mem_of_getElem? HG.out))
   have y0 : (r.n.toList != r.n.toList) = false := bne_self_eq_false _
   have y1 : (r.o != r.o) = false := bne_self_eq_false _
   have y2 : ((r.d.length : Int) != (r.d.length : Int)) = false := bne_self_eq_false _
   have p126 := eq_true hx0
   have q126 : (x < (l.length : Int)) = True := eq_true hlt
   clear hcell hcell0 hcl0 hK hcell' hcell0' hcl0' hK' hP hP' hn hn' hd hd'
   go_wp2
   refine wp_region_held_drew (S := fun W => ((W.cell? (ad.add (x.toNat * 18)) = some (.string r.n) ∧ W.cell? ⟨(ad.add (x.toNat * 18)).block,(ad.add (x.toNat * 18)).off + 16,none⟩ = some (.bool r.o) ∧ W.cell? ⟨(ad.add (x.toNat * 18)).block,(ad.add (x.toNat * 18)).off + 17,none⟩ = some (.slice D r.d.length q)) ∧ (W.cell? (ad'.add (x.toNat * 18)) = some (.string r.n) ∧ W.cell? ⟨(ad'.add (x.toNat * 18)).block,(ad'.add (x.toNat * 18)).off + 16,none⟩ = some (.bool r.o) ∧ W.cell? ⟨(ad'.add (x.toNat * 18)).block,(ad'.add (x.toNat * 18)).off + 17,none⟩ = some (.slice D' r.d.length q'))) ∧ Hid ((∀ (j : Nat) (v : Value),ts[j]? = some v → W.cell? ((⟨(ad.add (x.toNat * 18)).block,(ad.add (x.toNat * 18)).off + 1,none⟩ : Addr).add j) = some v) ∧ ∀ (j : Nat) (v : Value),ts'[j]? = some v → W.cell? ((⟨(ad'.add (x.toNat * 18)).block,(ad'.add (x.toNat * 18)).off + 1,none⟩ : Addr).add j) = some v)) (by kernel_rfl) ?_ (fun hHeld => ?_)
   ·exact HF.out _ HR.out.drew.below
   refine wpAnyH_take (i := 0) (oi := ⟨some 18,.move (.tmp 0),35,"ref.go:425",#[],none⟩) (v := ?_) rfl (by kernel_rfl) (by kernel_rfl) (by kernel_rfl) (fun _ _ _ h => h) (Or.inl ⟨by rfl, ?_⟩) (by assumption) ?_
   rotate_left 1
   ·intro w hSw
    try dsimp only at hSw
    go_simp
    all_goals with_reducible rfl
   try simp only [Act.put,List.setIfInBounds_toArray,List.set_cons_succ,List.set_cons_zero]
   refine wpAnyH_take (i := 1) (oi := ⟨some 19,.move (.tmp 5),3,"ref.go:425",#[],none⟩) (v := ?_) rfl (by kernel_rfl) (by kernel_rfl) (by kernel_rfl) (fun _ _ _ h => h) (Or.inl ⟨by rfl, ?_⟩) (by assumption) ?_
   rotate_left 1
   ·intro w hSw
    try dsimp only at hSw
    go_simp
    all_goals with_reducible rfl
   try simp only [Act.put,List.setIfInBounds_toArray,List.set_cons_succ,List.set_cons_zero]
   refine wpAnyH_take (i := 2) (oi := ⟨some 20,.indexAddr 35 (.tmp 18) (.tmp 19),0,"ref.go:425",#[⟨0,.data⟩,⟨1,.data⟩],none⟩) (v := ?_) rfl (by kernel_rfl) (by kernel_rfl) (by kernel_rfl) (fun _ _ _ h => h) (Or.inl ⟨by rfl, ?_⟩) (by assumption) ?_
   rotate_left 1
   ·intro w hSw
    try dsimp only at hSw
    go_simp
    all_goals with_reducible rfl
   try simp only [Act.put,List.setIfInBounds_toArray,List.set_cons_succ,List.set_cons_zero]
   refine wpAnyH_take (i := 3) (oi := ⟨some 21,.fieldAddr 83 (.tmp 20) 0,0,"ref.go:425",#[⟨2,.data⟩],none⟩) (v := ?_) rfl (by kernel_rfl) (by kernel_rfl) (by kernel_rfl) (fun _ _ _ h => h) (Or.inl ⟨by rfl, ?_⟩) (by assumption) ?_
   rotate_left 1
   ·intro w hSw
    try dsimp only at hSw
    go_simp
    all_goals with_reducible rfl
   try simp only [Act.put,List.setIfInBounds_toArray,List.set_cons_succ,List.set_cons_zero]
   refine wpAnyH_take (i := 4) (oi := ⟨some 22,.load 9 (.tmp 21),9,"ref.go:425",#[⟨3,.data⟩],none⟩) (v := ?_) rfl (by kernel_rfl) (by kernel_rfl) (by kernel_rfl) (fun _ _ _ h => h) (Or.inl ⟨by rfl, ?_⟩) (by assumption) ?_
   rotate_left 1
   ·intro w hSw
    try dsimp only at hSw
    go_simp
    all_goals with_reducible rfl
   try simp only [Act.put,List.setIfInBounds_toArray,List.set_cons_succ,List.set_cons_zero]
   refine wpAnyH_take (i := 5) (oi := ⟨some 23,.move (.tmp 1),35,"ref.go:425",#[],none⟩) (v := ?_) rfl (by kernel_rfl) (by kernel_rfl) (by kernel_rfl) (fun _ _ _ h => h) (Or.inl ⟨by rfl, ?_⟩) (by assumption) ?_
   rotate_left 1
   ·intro w hSw
    try dsimp only at hSw
    go_simp
    all_goals with_reducible rfl
   try simp only [Act.put,List.setIfInBounds_toArray,List.set_cons_succ,List.set_cons_zero]
   refine wpAnyH_take (i := 6) (oi := ⟨some 24,.move (.tmp 5),3,"ref.go:425",#[],none⟩) (v := ?_) rfl (by kernel_rfl) (by kernel_rfl) (by kernel_rfl) (fun _ _ _ h => h) (Or.inl ⟨by rfl, ?_⟩) (by assumption) ?_
   rotate_left 1
   ·intro w hSw
    try dsimp only at hSw
    go_simp
    all_goals with_reducible rfl
   try simp only [Act.put,List.setIfInBounds_toArray,List.set_cons_succ,List.set_cons_zero]
   refine wpAnyH_take (i := 7) (oi := ⟨some 25,.indexAddr 35 (.tmp 23) (.tmp 24),0,"ref.go:425",#[⟨5,.data⟩,⟨6,.data⟩],none⟩) (v := ?_) rfl (by kernel_rfl) (by kernel_rfl) (by kernel_rfl) (fun _ _ _ h => h) (Or.inl ⟨by rfl, ?_⟩) (by assumption) ?_
   rotate_left 1
   ·intro w hSw
    try dsimp only at hSw
    go_simp
    all_goals with_reducible rfl
   try simp only [Act.put,List.setIfInBounds_toArray,List.set_cons_succ,List.set_cons_zero]
   refine wpAnyH_take (i := 8) (oi := ⟨some 26,.fieldAddr 83 (.tmp 25) 0,0,"ref.go:425",#[⟨7,.data⟩],none⟩) (v := ?_) rfl (by kernel_rfl) (by kernel_rfl) (by kernel_rfl) (fun _ _ _ h => h) (Or.inl ⟨by rfl, ?_⟩) (by assumption) ?_
   rotate_left 1
   ·intro w hSw
    try dsimp only at hSw
    go_simp
    all_goals with_reducible rfl
   try simp only [Act.put,List.setIfInBounds_toArray,List.set_cons_succ,List.set_cons_zero]
   refine wpAnyH_take (i := 9) (oi := ⟨some 27,.load 9 (.tmp 26),9,"ref.go:425",#[⟨8,.data⟩],none⟩) (v := ?_) rfl (by kernel_rfl) (by kernel_rfl) (by kernel_rfl) (fun _ _ _ h => h) (Or.inl ⟨by rfl, ?_⟩) (by assumption) ?_
   rotate_left 1
   ·intro w hSw
    try dsimp only at hSw
    go_simp
    all_goals with_reducible rfl
   try simp only [Act.put,List.setIfInBounds_toArray,List.set_cons_succ,List.set_cons_zero]
   refine wpAnyH_take (i := 10) (oi := ⟨some 28,.binOp .neq 9 (.tmp 22) (.tmp 27) 9,4,"ref.go:425",#[⟨4,.data⟩,⟨9,.data⟩],none⟩) (v := ?_) rfl (by kernel_rfl) (by kernel_rfl) (by kernel_rfl) (fun _ _ _ h => h) (Or.inl ⟨by rfl, ?_⟩) (by assumption) ?_
   rotate_left 1
   ·intro w hSw
    try dsimp only at hSw
    go_simp
    all_goals with_reducible rfl
   try simp only [Act.put,List.setIfInBounds_toArray,List.set_cons_succ,List.set_cons_zero]
   refine wpAnyH_take (i := 11) (oi := ⟨some 29,.move (.tmp 28),4,"ref.go:425",#[⟨10,.data⟩],none⟩) (v := ?_) rfl (by kernel_rfl) (by kernel_rfl) (by kernel_rfl) (fun _ _ _ h => h) (Or.inl ⟨by rfl, ?_⟩) (by assumption) ?_
   rotate_left 1
   ·intro w hSw
    try dsimp only at hSw
    go_simp
    all_goals with_reducible rfl
   try simp only [Act.put,List.setIfInBounds_toArray,List.set_cons_succ,List.set_cons_zero]
   refine wpAnyH_take (i := 12) (oi := ⟨some 30,.move (.tmp 0),35,"ref.go:425",#[⟨11,.guard⟩],some (11,false)⟩) (v := ?_) rfl (by kernel_rfl) (by kernel_rfl) (by kernel_rfl) (fun _ _ _ h => h) (Or.inl ⟨by rfl, ?_⟩) (by assumption) ?_
   rotate_left 1
   ·intro w hSw
    try dsimp only at hSw
    go_simp
    all_goals with_reducible rfl
   try simp only [Act.put,List.setIfInBounds_toArray,List.set_cons_succ,List.set_cons_zero]
   refine wpAnyH_take (i := 13) (oi := ⟨some 31,.move (.tmp 5),3,"ref.go:425",#[⟨11,.guard⟩],some (11,false)⟩) (v := ?_) rfl (by kernel_rfl) (by kernel_rfl) (by kernel_rfl) (fun _ _ _ h => h) (Or.inl ⟨by rfl, ?_⟩) (by assumption) ?_
   rotate_left 1
   ·intro w hSw
    try dsimp only at hSw
    go_simp
    all_goals with_reducible rfl
   try simp only [Act.put,List.setIfInBounds_toArray,List.set_cons_succ,List.set_cons_zero]
   refine wpAnyH_take (i := 14) (oi := ⟨some 32,.indexAddr 35 (.tmp 30) (.tmp 31),0,"ref.go:425",#[⟨12,.data⟩,⟨13,.data⟩,⟨11,.guard⟩],some (11,false)⟩) (v := ?_) rfl (by kernel_rfl) (by kernel_rfl) (by kernel_rfl) (fun _ _ _ h => h) (Or.inl ⟨by rfl, ?_⟩) (by assumption) ?_
   rotate_left 1
   ·intro w hSw
    try dsimp only at hSw
    go_simp
    all_goals with_reducible rfl
   try simp only [Act.put,List.setIfInBounds_toArray,List.set_cons_succ,List.set_cons_zero]
   refine wpAnyH_take (i := 15) (oi := ⟨some 33,.fieldAddr 83 (.tmp 32) 2,0,"ref.go:425",#[⟨14,.data⟩,⟨11,.guard⟩],some (11,false)⟩) (v := ?_) rfl (by kernel_rfl) (by kernel_rfl) (by kernel_rfl) (fun _ _ _ h => h) (Or.inl ⟨by rfl, ?_⟩) (by assumption) ?_
   rotate_left 1
   ·intro w hSw
    try dsimp only at hSw
    go_simp
    all_goals with_reducible rfl
   try simp only [Act.put,List.setIfInBounds_toArray,List.set_cons_succ,List.set_cons_zero]
   refine wpAnyH_take (i := 16) (oi := ⟨some 34,.load 4 (.tmp 33),4,"ref.go:425",#[⟨15,.data⟩,⟨11,.guard⟩],some (11,false)⟩) (v := ?_) rfl (by kernel_rfl) (by kernel_rfl) (by kernel_rfl) (fun _ _ _ h => h) (Or.inl ⟨by rfl, ?_⟩) (by assumption) ?_
   rotate_left 1
   ·intro w hSw
    try dsimp only at hSw
    go_simp
    all_goals with_reducible rfl
   try simp only [Act.put,List.setIfInBounds_toArray,List.set_cons_succ,List.set_cons_zero]
   refine wpAnyH_take (i := 17) (oi := ⟨some 35,.move (.tmp 1),35,"ref.go:425",#[⟨11,.guard⟩],some (11,false)⟩) (v := ?_) rfl (by kernel_rfl) (by kernel_rfl) (by kernel_rfl) (fun _ _ _ h => h) (Or.inl ⟨by rfl, ?_⟩) (by assumption) ?_
   rotate_left 1
   ·intro w hSw
    try dsimp only at hSw
    go_simp
    all_goals with_reducible rfl
   try simp only [Act.put,List.setIfInBounds_toArray,List.set_cons_succ,List.set_cons_zero]
   refine wpAnyH_take (i := 18) (oi := ⟨some 36,.move (.tmp 5),3,"ref.go:425",#[⟨11,.guard⟩],some (11,false)⟩) (v := ?_) rfl (by kernel_rfl) (by kernel_rfl) (by kernel_rfl) (fun _ _ _ h => h) (Or.inl ⟨by rfl, ?_⟩) (by assumption) ?_
   rotate_left 1
   ·intro w hSw
    try dsimp only at hSw
    go_simp
    all_goals with_reducible rfl
   try simp only [Act.put,List.setIfInBounds_toArray,List.set_cons_succ,List.set_cons_zero]
   refine wpAnyH_take (i := 19) (oi := ⟨some 37,.indexAddr 35 (.tmp 35) (.tmp 36),0,"ref.go:425",#[⟨17,.data⟩,⟨18,.data⟩,⟨11,.guard⟩],some (11,false)⟩) (v := ?_) rfl (by kernel_rfl) (by kernel_rfl) (by kernel_rfl) (fun _ _ _ h => h) (Or.inl ⟨by rfl, ?_⟩) (by assumption) ?_
   rotate_left 1
   ·intro w hSw
    try dsimp only at hSw
    go_simp
    all_goals with_reducible rfl
   try simp only [Act.put,List.setIfInBounds_toArray,List.set_cons_succ,List.set_cons_zero]
   refine wpAnyH_take (i := 20) (oi := ⟨some 38,.fieldAddr 83 (.tmp 37) 2,0,"ref.go:425",#[⟨19,.data⟩,⟨11,.guard⟩],some (11,false)⟩) (v := ?_) rfl (by kernel_rfl) (by kernel_rfl) (by kernel_rfl) (fun _ _ _ h => h) (Or.inl ⟨by rfl, ?_⟩) (by assumption) ?_
   rotate_left 1
   ·intro w hSw
    try dsimp only at hSw
    go_simp
    all_goals with_reducible rfl
   try simp only [Act.put,List.setIfInBounds_toArray,List.set_cons_succ,List.set_cons_zero]
   refine wpAnyH_take (i := 21) (oi := ⟨some 39,.load 4 (.tmp 38),4,"ref.go:425",#[⟨20,.data⟩,⟨11,.guard⟩],some (11,false)⟩) (v := ?_) rfl (by kernel_rfl) (by kernel_rfl) (by kernel_rfl) (fun _ _ _ h => h) (Or.inl ⟨by rfl, ?_⟩) (by assumption) ?_
   rotate_left 1
   ·intro w hSw
    try dsimp only at hSw
    go_simp
    all_goals with_reducible rfl
   try simp only [Act.put,List.setIfInBounds_toArray,List.set_cons_succ,List.set_cons_zero]
   refine wpAnyH_take (i := 22) (oi := ⟨some 40,.binOp .neq 4 (.tmp 34) (.tmp 39) 4,4,"ref.go:425",#[⟨16,.data⟩,⟨21,.data⟩,⟨11,.guard⟩],some (11,false)⟩) (v := ?_) rfl (by kernel_rfl) (by kernel_rfl) (by kernel_rfl) (fun _ _ _ h => h) (Or.inl ⟨by rfl, ?_⟩) (by assumption) ?_
   rotate_left 1
   ·intro w hSw
    try dsimp only at hSw
    go_simp
    all_goals with_reducible rfl
   try simp only [Act.put,List.setIfInBounds_toArray,List.set_cons_succ,List.set_cons_zero]
   refine wpAnyH_take (i := 23) (oi := ⟨some 41,.pick (.tmp 29) (.const (.bool true)) (.tmp 40),4,"ref.go:425",#[⟨11,.data⟩,⟨22,.data⟩],none⟩) (v := ?_) rfl (by kernel_rfl) (by kernel_rfl) (by kernel_rfl) (fun _ _ _ h => h) (Or.inl ⟨by rfl, ?_⟩) (by assumption) ?_
   rotate_left 1
   ·intro w hSw
    try dsimp only at hSw
    go_simp
    all_goals with_reducible rfl
   try simp only [Act.put,List.setIfInBounds_toArray,List.set_cons_succ,List.set_cons_zero]
   refine wpAnyH_take (i := 24) (oi := ⟨some 42,.move (.tmp 41),4,"ref.go:425",#[⟨23,.data⟩,⟨11,.chain⟩],none⟩) (v := ?_) rfl (by kernel_rfl) (by kernel_rfl) (by kernel_rfl) (fun _ _ _ h => h) (Or.inl ⟨by rfl, ?_⟩) (by assumption) ?_
   rotate_left 1
   ·intro w hSw
    try dsimp only at hSw
    go_simp
    all_goals with_reducible rfl
   try simp only [Act.put,List.setIfInBounds_toArray,List.set_cons_succ,List.set_cons_zero]
   refine wpAnyH_take (i := 25) (oi := ⟨some 43,.move (.tmp 0),35,"ref.go:425",#[⟨24,.guard⟩],some (24,false)⟩) (v := ?_) rfl (by kernel_rfl) (by kernel_rfl) (by kernel_rfl) (fun _ _ _ h => h) (Or.inl ⟨by rfl, ?_⟩) (by assumption) ?_
   rotate_left 1
   ·intro w hSw
    try dsimp only at hSw
    go_simp
    all_goals with_reducible rfl
   try simp only [Act.put,List.setIfInBounds_toArray,List.set_cons_succ,List.set_cons_zero]
   refine wpAnyH_take (i := 26) (oi := ⟨some 44,.move (.tmp 5),3,"ref.go:425",#[⟨24,.guard⟩],some (24,false)⟩) (v := ?_) rfl (by kernel_rfl) (by kernel_rfl) (by kernel_rfl) (fun _ _ _ h => h) (Or.inl ⟨by rfl, ?_⟩) (by assumption) ?_
   rotate_left 1
   ·intro w hSw
    try dsimp only at hSw
    go_simp
    all_goals with_reducible rfl
   try simp only [Act.put,List.setIfInBounds_toArray,List.set_cons_succ,List.set_cons_zero]
   refine wpAnyH_take (i := 27) (oi := ⟨some 45,.indexAddr 35 (.tmp 43) (.tmp 44),0,"ref.go:425",#[⟨25,.data⟩,⟨26,.data⟩,⟨24,.guard⟩],some (24,false)⟩) (v := ?_) rfl (by kernel_rfl) (by kernel_rfl) (by kernel_rfl) (fun _ _ _ h => h) (Or.inl ⟨by rfl, ?_⟩) (by assumption) ?_
   rotate_left 1
   ·intro w hSw
    try dsimp only at hSw
    go_simp
    all_goals with_reducible rfl
   try simp only [Act.put,List.setIfInBounds_toArray,List.set_cons_succ,List.set_cons_zero]
   refine wpAnyH_take (i := 28) (oi := ⟨some 46,.fieldAddr 83 (.tmp 45) 3,0,"ref.go:425",#[⟨27,.data⟩,⟨24,.guard⟩],some (24,false)⟩) (v := ?_) rfl (by kernel_rfl) (by kernel_rfl) (by kernel_rfl) (fun _ _ _ h => h) (Or.inl ⟨by rfl, ?_⟩) (by assumption) ?_
   rotate_left 1
   ·intro w hSw
    try dsimp only at hSw
    go_simp
    all_goals with_reducible rfl
   try simp only [Act.put,List.setIfInBounds_toArray,List.set_cons_succ,List.set_cons_zero]
   refine wpAnyH_take (i := 29) (oi := ⟨some 47,.load 81 (.tmp 46),81,"ref.go:425",#[⟨28,.data⟩,⟨24,.guard⟩],some (24,false)⟩) (v := ?_) rfl (by kernel_rfl) (by kernel_rfl) (by kernel_rfl) (fun _ _ _ h => h) (Or.inl ⟨by rfl, ?_⟩) (by assumption) ?_
   rotate_left 1
   ·intro w hSw
    try dsimp only at hSw
    go_simp
    all_goals with_reducible rfl
   try simp only [Act.put,List.setIfInBounds_toArray,List.set_cons_succ,List.set_cons_zero]
   refine wpAnyH_take (i := 30) (oi := ⟨some 48,.call { callee := .builtin .len,args := #[.tmp 47],argTypes := #[81] },3,"ref.go:425",#[⟨29,.data⟩,⟨24,.guard⟩],some (24,false)⟩) (v := ?_) rfl (by kernel_rfl) (by kernel_rfl) (by kernel_rfl) (fun _ _ _ h => h) (Or.inl ⟨by rfl, ?_⟩) (by assumption) ?_
   rotate_left 1
   ·intro w hSw
    try dsimp only at hSw
    go_simp
    all_goals with_reducible rfl
   try simp only [Act.put,List.setIfInBounds_toArray,List.set_cons_succ,List.set_cons_zero]
   refine wpAnyH_take (i := 31) (oi := ⟨some 49,.move (.tmp 1),35,"ref.go:425",#[⟨24,.guard⟩],some (24,false)⟩) (v := ?_) rfl (by kernel_rfl) (by kernel_rfl) (by kernel_rfl) (fun _ _ _ h => h) (Or.inl ⟨by rfl, ?_⟩) (by assumption) ?_
   rotate_left 1
   ·intro w hSw
    try dsimp only at hSw
    go_simp
    all_goals with_reducible rfl
   try simp only [Act.put,List.setIfInBounds_toArray,List.set_cons_succ,List.set_cons_zero]
   refine wpAnyH_take (i := 32) (oi := ⟨some 50,.move (.tmp 5),3,"ref.go:425",#[⟨24,.guard⟩],some (24,false)⟩) (v := ?_) rfl (by kernel_rfl) (by kernel_rfl) (by kernel_rfl) (fun _ _ _ h => h) (Or.inl ⟨by rfl, ?_⟩) (by assumption) ?_
   rotate_left 1
   ·intro w hSw
    try dsimp only at hSw
    go_simp
    all_goals with_reducible rfl
   try simp only [Act.put,List.setIfInBounds_toArray,List.set_cons_succ,List.set_cons_zero]
   refine wpAnyH_take (i := 33) (oi := ⟨some 51,.indexAddr 35 (.tmp 49) (.tmp 50),0,"ref.go:425",#[⟨31,.data⟩,⟨32,.data⟩,⟨24,.guard⟩],some (24,false)⟩) (v := ?_) rfl (by kernel_rfl) (by kernel_rfl) (by kernel_rfl) (fun _ _ _ h => h) (Or.inl ⟨by rfl, ?_⟩) (by assumption) ?_
   rotate_left 1
   ·intro w hSw
    try dsimp only at hSw
    go_simp
    all_goals with_reducible rfl
   try simp only [Act.put,List.setIfInBounds_toArray,List.set_cons_succ,List.set_cons_zero]
   refine wpAnyH_take (i := 34) (oi := ⟨some 52,.fieldAddr 83 (.tmp 51) 3,0,"ref.go:425",#[⟨33,.data⟩,⟨24,.guard⟩],some (24,false)⟩) (v := ?_) rfl (by kernel_rfl) (by kernel_rfl) (by kernel_rfl) (fun _ _ _ h => h) (Or.inl ⟨by rfl, ?_⟩) (by assumption) ?_
   rotate_left 1
   ·intro w hSw
    try dsimp only at hSw
    go_simp
    all_goals with_reducible rfl
   try simp only [Act.put,List.setIfInBounds_toArray,List.set_cons_succ,List.set_cons_zero]
   refine wpAnyH_take (i := 35) (oi := ⟨some 53,.load 81 (.tmp 52),81,"ref.go:425",#[⟨34,.data⟩,⟨24,.guard⟩],some (24,false)⟩) (v := ?_) rfl (by kernel_rfl) (by kernel_rfl) (by kernel_rfl) (fun _ _ _ h => h) (Or.inl ⟨by rfl, ?_⟩) (by assumption) ?_
   rotate_left 1
   ·intro w hSw
    try dsimp only at hSw
    go_simp
    all_goals with_reducible rfl
   try simp only [Act.put,List.setIfInBounds_toArray,List.set_cons_succ,List.set_cons_zero]
   refine wpAnyH_take (i := 36) (oi := ⟨some 54,.call { callee := .builtin .len,args := #[.tmp 53],argTypes := #[81] },3,"ref.go:425",#[⟨35,.data⟩,⟨24,.guard⟩],some (24,false)⟩) (v := ?_) rfl (by kernel_rfl) (by kernel_rfl) (by kernel_rfl) (fun _ _ _ h => h) (Or.inl ⟨by rfl, ?_⟩) (by assumption) ?_
   rotate_left 1
   ·intro w hSw
    try dsimp only at hSw
    go_simp
    all_goals with_reducible rfl
   try simp only [Act.put,List.setIfInBounds_toArray,List.set_cons_succ,List.set_cons_zero]
   refine wpAnyH_take (i := 37) (oi := ⟨some 55,.binOp .neq 3 (.tmp 48) (.tmp 54) 3,4,"ref.go:425",#[⟨30,.data⟩,⟨36,.data⟩,⟨24,.guard⟩],some (24,false)⟩) (v := ?_) rfl (by kernel_rfl) (by kernel_rfl) (by kernel_rfl) (fun _ _ _ h => h) (Or.inl ⟨by rfl, ?_⟩) (by assumption) ?_
   rotate_left 1
   ·intro w hSw
    try dsimp only at hSw
    go_simp
    all_goals with_reducible rfl
   try simp only [Act.put,List.setIfInBounds_toArray,List.set_cons_succ,List.set_cons_zero]
   refine wpAnyH_take (i := 38) (oi := ⟨some 56,.pick (.tmp 42) (.const (.bool true)) (.tmp 55),4,"ref.go:425",#[⟨24,.data⟩,⟨37,.data⟩],none⟩) (v := ?_) rfl (by kernel_rfl) (by kernel_rfl) (by kernel_rfl) (fun _ _ _ h => h) (Or.inl ⟨by rfl, ?_⟩) (by assumption) ?_
   rotate_left 1
   ·intro w hSw
    try dsimp only at hSw
    go_simp
    all_goals with_reducible rfl
   try simp only [Act.put,List.setIfInBounds_toArray,List.set_cons_succ,List.set_cons_zero]
   refine wpAnyH_take (i := 39) (oi := ⟨some 57,.move (.tmp 56),4,"ref.go:425",#[⟨38,.data⟩,⟨24,.chain⟩],none⟩) (v := ?_) rfl (by kernel_rfl) (by kernel_rfl) (by kernel_rfl) (fun _ _ _ h => h) (Or.inl ⟨by rfl, ?_⟩) (by assumption) ?_
   rotate_left 1
   ·intro w hSw
    try dsimp only at hSw
    go_simp
    all_goals with_reducible rfl
   try simp only [Act.put,List.setIfInBounds_toArray,List.set_cons_succ,List.set_cons_zero]
   refine wpAnyH_take (i := 40) (oi := ⟨some 58,.move (.tmp 0),35,"ref.go:425",#[⟨39,.guard⟩],some (39,false)⟩) (v := ?_) rfl (by kernel_rfl) (by kernel_rfl) (by kernel_rfl) (fun _ _ _ h => h) (Or.inl ⟨by rfl, ?_⟩) (by assumption) ?_
   rotate_left 1
   ·intro w hSw
    try dsimp only at hSw
    go_simp
    all_goals with_reducible rfl
   try simp only [Act.put,List.setIfInBounds_toArray,List.set_cons_succ,List.set_cons_zero]
   refine wpAnyH_take (i := 41) (oi := ⟨some 59,.move (.tmp 5),3,"ref.go:425",#[⟨39,.guard⟩],some (39,false)⟩) (v := ?_) rfl (by kernel_rfl) (by kernel_rfl) (by kernel_rfl) (fun _ _ _ h => h) (Or.inl ⟨by rfl, ?_⟩) (by assumption) ?_
   rotate_left 1
   ·intro w hSw
    try dsimp only at hSw
    go_simp
    all_goals with_reducible rfl
   try simp only [Act.put,List.setIfInBounds_toArray,List.set_cons_succ,List.set_cons_zero]
   refine wpAnyH_take (i := 42) (oi := ⟨some 60,.indexAddr 35 (.tmp 58) (.tmp 59),0,"ref.go:425",#[⟨40,.data⟩,⟨41,.data⟩,⟨39,.guard⟩],some (39,false)⟩) (v := ?_) rfl (by kernel_rfl) (by kernel_rfl) (by kernel_rfl) (fun _ _ _ h => h) (Or.inl ⟨by rfl, ?_⟩) (by assumption) ?_
   rotate_left 1
   ·intro w hSw
    try dsimp only at hSw
    go_simp
    all_goals with_reducible rfl
   try simp only [Act.put,List.setIfInBounds_toArray,List.set_cons_succ,List.set_cons_zero]
   refine wpAnyH_take (i := 43) (oi := ⟨some 61,.fieldAddr 83 (.tmp 60) 1,0,"ref.go:425",#[⟨42,.data⟩,⟨39,.guard⟩],some (39,false)⟩) (v := ?_) rfl (by kernel_rfl) (by kernel_rfl) (by kernel_rfl) (fun _ _ _ h => h) (Or.inl ⟨by rfl, ?_⟩) (by assumption) ?_
   rotate_left 1
   ·intro w hSw
    try dsimp only at hSw
    go_simp
    all_goals with_reducible rfl
   try simp only [Act.put,List.setIfInBounds_toArray,List.set_cons_succ,List.set_cons_zero]
   refine wpAnyH_take (i := 44) (oi := ⟨some 62,.load 38 (.tmp 61),38,"ref.go:425",#[⟨43,.data⟩,⟨39,.guard⟩],some (39,false)⟩) (v := .agg ts.toArray) rfl (by kernel_rfl) (by kernel_rfl) (by kernel_rfl) (fun _ _ _ h => h) (yields_load (by rfl) 38 _ rfl ⟨(ad.add (x.toNat * 18)).block,(ad.add (x.toNat * 18)).off + 1,none⟩ rfl ts (fun w hS => hS.2.out.1) _ Tryz.underlying38 rfl (by rw [HK.out.2.1.1]; kernel_rfl)) (by assumption) ?_
   try simp only [Act.put,List.setIfInBounds_toArray,List.set_cons_succ,List.set_cons_zero]
   refine wpAnyH_take (i := 45) (oi := ⟨some 63,.move (.tmp 1),35,"ref.go:425",#[⟨39,.guard⟩],some (39,false)⟩) (v := ?_) rfl (by kernel_rfl) (by kernel_rfl) (by kernel_rfl) (fun _ _ _ h => h) (Or.inl ⟨by rfl, ?_⟩) (by assumption) ?_
   rotate_left 1
   ·intro w hSw
    try dsimp only at hSw
    go_simp
    all_goals with_reducible rfl
   try simp only [Act.put,List.setIfInBounds_toArray,List.set_cons_succ,List.set_cons_zero]
   refine wpAnyH_take (i := 46) (oi := ⟨some 64,.move (.tmp 5),3,"ref.go:425",#[⟨39,.guard⟩],some (39,false)⟩) (v := ?_) rfl (by kernel_rfl) (by kernel_rfl) (by kernel_rfl) (fun _ _ _ h => h) (Or.inl ⟨by rfl, ?_⟩) (by assumption) ?_
   rotate_left 1
   ·intro w hSw
    try dsimp only at hSw
    go_simp
    all_goals with_reducible rfl
   try simp only [Act.put,List.setIfInBounds_toArray,List.set_cons_succ,List.set_cons_zero]
   refine wpAnyH_take (i := 47) (oi := ⟨some 65,.indexAddr 35 (.tmp 63) (.tmp 64),0,"ref.go:425",#[⟨45,.data⟩,⟨46,.data⟩,⟨39,.guard⟩],some (39,false)⟩) (v := ?_) rfl (by kernel_rfl) (by kernel_rfl) (by kernel_rfl) (fun _ _ _ h => h) (Or.inl ⟨by rfl, ?_⟩) (by assumption) ?_
   rotate_left 1
   ·intro w hSw
    try dsimp only at hSw
    go_simp
    all_goals with_reducible rfl
   try simp only [Act.put,List.setIfInBounds_toArray,List.set_cons_succ,List.set_cons_zero]
   refine wpAnyH_take (i := 48) (oi := ⟨some 66,.fieldAddr 83 (.tmp 65) 1,0,"ref.go:425",#[⟨47,.data⟩,⟨39,.guard⟩],some (39,false)⟩) (v := ?_) rfl (by kernel_rfl) (by kernel_rfl) (by kernel_rfl) (fun _ _ _ h => h) (Or.inl ⟨by rfl, ?_⟩) (by assumption) ?_
   rotate_left 1
   ·intro w hSw
    try dsimp only at hSw
    go_simp
    all_goals with_reducible rfl
   try simp only [Act.put,List.setIfInBounds_toArray,List.set_cons_succ,List.set_cons_zero]
   refine wpAnyH_take (i := 49) (oi := ⟨some 67,.load 38 (.tmp 66),38,"ref.go:425",#[⟨48,.data⟩,⟨39,.guard⟩],some (39,false)⟩) (v := .agg ts'.toArray) rfl (by kernel_rfl) (by kernel_rfl) (by kernel_rfl) (fun _ _ _ h => h) (yields_load (by rfl) 38 _ rfl ⟨(ad'.add (x.toNat * 18)).block,(ad'.add (x.toNat * 18)).off + 1,none⟩ rfl ts' (fun w hS => hS.2.out.2) _ Tryz.underlying38 rfl (by rw [HK.out.2.1.2]; kernel_rfl)) (by assumption) ?_
   try simp only [Act.put,List.setIfInBounds_toArray,List.set_cons_succ,List.set_cons_zero]
   refine wpAnyH_ready (rs := [50]) (by kernel_rfl) (by simp) ?_
   refine AllReadyH.cons (o := ⟨some 68,.call { callee := .value (.func 23),args := #[.tmp 62,.tmp 67],argTypes := #[38,38] },4,"ref.go:425",#[⟨44,.data⟩,⟨49,.data⟩,⟨39,.chain⟩,⟨39,.guard⟩],some (39,false)⟩) rfl (fun K hK => ?_) AllReadyH.nil
   go_simp
   refine (HI.out.2.2.1 r.t HZ.out _ _ ts ts' HR.out.drew HK.out.1.1 HK.out.1.2).mono ?_
   rintro e w3 ⟨rfl,h3⟩
   refine hK.out _ _ ?_ (fun hHeld => ?_)
   ·exact HF.out _ h3.below
   clear hK K
   try simp only [Act.put,List.setIfInBounds_toArray,List.set_cons_succ,List.set_cons_zero]
   refine wpAnyH_take (i := 51) (oi := ⟨some 69,.unOp .not 4 (.tmp 68),4,"ref.go:425",#[⟨50,.data⟩,⟨39,.guard⟩],some (39,false)⟩) (v := ?_) rfl (by kernel_rfl) (by kernel_rfl) (by kernel_rfl) (fun _ _ _ h => h) (Or.inl ⟨by rfl, ?_⟩) (by assumption) ?_
   rotate_left 1
   ·intro w hSw
    try dsimp only at hSw
    go_simp
    all_goals with_reducible rfl
   try simp only [Act.put,List.setIfInBounds_toArray,List.set_cons_succ,List.set_cons_zero]
   refine wpAnyH_take (i := 52) (oi := ⟨some 70,.pick (.tmp 57) (.const (.bool true)) (.tmp 69),4,"ref.go:425",#[⟨39,.data⟩,⟨51,.data⟩],none⟩) (v := ?_) rfl (by kernel_rfl) (by kernel_rfl) (by kernel_rfl) (fun _ _ _ h => h) (Or.inl ⟨by rfl, ?_⟩) (by assumption) ?_
   rotate_left 1
   ·intro w hSw
    try dsimp only at hSw
    go_simp
    all_goals with_reducible rfl
   try simp only [Act.put,List.setIfInBounds_toArray,List.set_cons_succ,List.set_cons_zero]
   refine wpAnyH_done (by kernel_rfl) ?_ _
   have HD := Lib.hid h3
   clear h3 hHeld HR
   go_wp2
   go_loopw [6] (fun v wr => ∃ y : Int,0 ≤ y ∧ y ≤ r.d.length ∧ v = .int .i64 y ∧ Hid (S w0 wr R)) (fun v _ => r.d.length - (intOf v).toNat)
   case atStart => exact ⟨0,Int.le_refl _,by omega,rfl,HD⟩
   case round =>
    clear HD
    obtain ⟨y,hy0,hy1,rfl,HS⟩ := hrel
    obtain ⟨⟨⟨-, -,e17⟩, -⟩, -⟩ := HF.out _ HS.out.below
    by_cases hly : y < r.d.length
    ·obtain ⟨dd,vs,eD,hcl7,hK7,hcell7⟩ := Kd.C_get HK.out.2.2.1 zVal y hy0 hly
     obtain ⟨dd',vs',eD',hcl7',hK7',hcell7'⟩ := Kd.C_get HK.out.2.2.2 zVal y hy0 hly
     cases eD
     cases eD'
     have hcell : ∀ (j : Nat) (u : Value),vs[j]? = some u → w0.cell? (dd.add (y.toNat * 5 + j)) = some u := hcell7
     have hcell' : ∀ (j : Nat) (u : Value),vs'[j]? = some u → w0.cell? (dd'.add (y.toNat * 5 + j)) = some u := hcell7'
     generalize r.d.getD y.toNat zVal = v at *
     obtain ⟨B3,p3,B4,p4,rfl, -,k3, -,k4⟩ := PScopeResolves.k109_open (show kVal.K w0 v vs from hK7)
     obtain ⟨B3',p3',B4',p4',rfl, -,k3', -,k4'⟩ := PScopeResolves.k109_open (show kVal.K w0 v vs' from hK7')
     have HV := Lib.hid (And.intro k3 (And.intro k3' (And.intro k4 k4')))
     have HFv : Hid (∀ W,Below w0.heap.size w0 W → (W.cell? (dd.add (y.toNat * 5)) = some (.int .i64 v.f0) ∧ W.cell? ⟨(dd.add (y.toNat * 5)).block,(dd.add (y.toNat * 5)).off + 1,none⟩ = some (.int .i64 v.f1) ∧ W.cell? ⟨(dd.add (y.toNat * 5)).block,(dd.add (y.toNat * 5)).off + 2,none⟩ = some (.string v.f2) ∧ W.cell? ⟨(dd.add (y.toNat * 5)).block,(dd.add (y.toNat * 5)).off + 3,none⟩ = some (.slice B3 v.f3.length p3) ∧ W.cell? ⟨(dd.add (y.toNat * 5)).block,(dd.add (y.toNat * 5)).off + 4,none⟩ = some (.slice B4 v.f4.length p4)) ∧ (W.cell? (dd'.add (y.toNat * 5)) = some (.int .i64 v.f0) ∧ W.cell? ⟨(dd'.add (y.toNat * 5)).block,(dd'.add (y.toNat * 5)).off + 1,none⟩ = some (.int .i64 v.f1) ∧ W.cell? ⟨(dd'.add (y.toNat * 5)).block,(dd'.add (y.toNat * 5)).off + 2,none⟩ = some (.string v.f2) ∧ W.cell? ⟨(dd'.add (y.toNat * 5)).block,(dd'.add (y.toNat * 5)).off + 3,none⟩ = some (.slice B3' v.f3.length p3') ∧ W.cell? ⟨(dd'.add (y.toNat * 5)).block,(dd'.add (y.toNat * 5)).off + 4,none⟩ = some (.slice B4' v.f4.length p4'))) := Lib.hid fun W hW => by
      refine ⟨⟨pw_cell_below hW (hcell 0 _ rfl), ?_, ?_, ?_, ?_⟩,⟨pw_cell_below hW (hcell' 0 _ rfl), ?_, ?_, ?_, ?_⟩⟩
      ·rw [← add_field dd _ 1 (by decide)]; exact pw_cell_below hW (hcell 1 _ rfl)
      ·rw [← add_field dd _ 2 (by decide)]; exact pw_cell_below hW (hcell 2 _ rfl)
      ·rw [← add_field dd _ 3 (by decide)]; exact pw_cell_below hW (hcell 3 _ rfl)
      ·rw [← add_field dd _ 4 (by decide)]; exact pw_cell_below hW (hcell 4 _ rfl)
      ·rw [← add_field dd' _ 1 (by decide)]; exact pw_cell_below hW (hcell' 1 _ rfl)
      ·rw [← add_field dd' _ 2 (by decide)]; exact pw_cell_below hW (hcell' 2 _ rfl)
      ·rw [← add_field dd' _ 3 (by decide)]; exact pw_cell_below hW (hcell' 3 _ rfl)
      ·rw [← add_field dd' _ 4 (by decide)]; exact pw_cell_below hW (hcell' 4 _ rfl)
     have p127 := eq_true hy0
     have q127 : (y < (r.d.length : Int)) = True := eq_true hly
     clear hcell hcell' hcell7 hcell7' hcl7 hcl7' hK7 hK7' k3 k4 k3' k4'
     go_wp2
     clear e17
     refine wp_region_held_drew (S := fun W => (W.cell? ⟨(ad.add (x.toNat * 18)).block,(ad.add (x.toNat * 18)).off + 17,none⟩ = some (.slice (some dd) r.d.length q) ∧ W.cell? ⟨(ad'.add (x.toNat * 18)).block,(ad'.add (x.toNat * 18)).off + 17,none⟩ = some (.slice (some dd') r.d.length q')) ∧ (W.cell? (dd.add (y.toNat * 5)) = some (.int .i64 v.f0) ∧ W.cell? ⟨(dd.add (y.toNat * 5)).block,(dd.add (y.toNat * 5)).off + 1,none⟩ = some (.int .i64 v.f1) ∧ W.cell? ⟨(dd.add (y.toNat * 5)).block,(dd.add (y.toNat * 5)).off + 2,none⟩ = some (.string v.f2) ∧ W.cell? ⟨(dd.add (y.toNat * 5)).block,(dd.add (y.toNat * 5)).off + 3,none⟩ = some (.slice B3 v.f3.length p3) ∧ W.cell? ⟨(dd.add (y.toNat * 5)).block,(dd.add (y.toNat * 5)).off + 4,none⟩ = some (.slice B4 v.f4.length p4)) ∧ (W.cell? (dd'.add (y.toNat * 5)) = some (.int .i64 v.f0) ∧ W.cell? ⟨(dd'.add (y.toNat * 5)).block,(dd'.add (y.toNat * 5)).off + 1,none⟩ = some (.int .i64 v.f1) ∧ W.cell? ⟨(dd'.add (y.toNat * 5)).block,(dd'.add (y.toNat * 5)).off + 2,none⟩ = some (.string v.f2) ∧ W.cell? ⟨(dd'.add (y.toNat * 5)).block,(dd'.add (y.toNat * 5)).off + 3,none⟩ = some (.slice B3' v.f3.length p3') ∧ W.cell? ⟨(dd'.add (y.toNat * 5)).block,(dd'.add (y.toNat * 5)).off + 4,none⟩ = some (.slice B4' v.f4.length p4'))) (by kernel_rfl) ?_ (fun hHeld => ?_)
     ·exact ⟨⟨(HF.out _ HS.out.drew.below).1.1.2.2,(HF.out _ HS.out.drew.below).1.2.2.2⟩,HFv.out _ HS.out.drew.below⟩
     refine wpAnyH_take (i := 0) (oi := ⟨some 81,.move (.tmp 0),35,"ref.go:429",#[],none⟩) (v := ?_) rfl (by kernel_rfl) (by kernel_rfl) (by kernel_rfl) (fun _ _ _ h => h) (Or.inl ⟨by rfl, ?_⟩) (by assumption) ?_
     rotate_left 1
     ·intro w hSw
      try dsimp only at hSw
      go_simp
      all_goals with_reducible rfl
     try simp only [Act.put,List.setIfInBounds_toArray,List.set_cons_succ,List.set_cons_zero]
     refine wpAnyH_take (i := 1) (oi := ⟨some 82,.move (.tmp 5),3,"ref.go:429",#[],none⟩) (v := ?_) rfl (by kernel_rfl) (by kernel_rfl) (by kernel_rfl) (fun _ _ _ h => h) (Or.inl ⟨by rfl, ?_⟩) (by assumption) ?_
     rotate_left 1
     ·intro w hSw
      try dsimp only at hSw
      go_simp
      all_goals with_reducible rfl
     try simp only [Act.put,List.setIfInBounds_toArray,List.set_cons_succ,List.set_cons_zero]
     refine wpAnyH_take (i := 2) (oi := ⟨some 83,.indexAddr 35 (.tmp 81) (.tmp 82),0,"ref.go:429",#[⟨0,.data⟩,⟨1,.data⟩],none⟩) (v := ?_) rfl (by kernel_rfl) (by kernel_rfl) (by kernel_rfl) (fun _ _ _ h => h) (Or.inl ⟨by rfl, ?_⟩) (by assumption) ?_
     rotate_left 1
     ·intro w hSw
      try dsimp only at hSw
      go_simp
      all_goals with_reducible rfl
     try simp only [Act.put,List.setIfInBounds_toArray,List.set_cons_succ,List.set_cons_zero]
     refine wpAnyH_take (i := 3) (oi := ⟨some 84,.fieldAddr 83 (.tmp 83) 3,0,"ref.go:429",#[⟨2,.data⟩],none⟩) (v := ?_) rfl (by kernel_rfl) (by kernel_rfl) (by kernel_rfl) (fun _ _ _ h => h) (Or.inl ⟨by rfl, ?_⟩) (by assumption) ?_
     rotate_left 1
     ·intro w hSw
      try dsimp only at hSw
      go_simp
      all_goals with_reducible rfl
     try simp only [Act.put,List.setIfInBounds_toArray,List.set_cons_succ,List.set_cons_zero]
     refine wpAnyH_take (i := 4) (oi := ⟨some 85,.load 81 (.tmp 84),81,"ref.go:429",#[⟨3,.data⟩],none⟩) (v := ?_) rfl (by kernel_rfl) (by kernel_rfl) (by kernel_rfl) (fun _ _ _ h => h) (Or.inl ⟨by rfl, ?_⟩) (by assumption) ?_
     rotate_left 1
     ·intro w hSw
      try dsimp only at hSw
      go_simp
      all_goals with_reducible rfl
     try simp only [Act.put,List.setIfInBounds_toArray,List.set_cons_succ,List.set_cons_zero]
     refine wpAnyH_take (i := 5) (oi := ⟨some 86,.move (.tmp 6),3,"ref.go:429",#[],none⟩) (v := ?_) rfl (by kernel_rfl) (by kernel_rfl) (by kernel_rfl) (fun _ _ _ h => h) (Or.inl ⟨by rfl, ?_⟩) (by assumption) ?_
     rotate_left 1
     ·intro w hSw
      try dsimp only at hSw
      go_simp
      all_goals with_reducible rfl
     try simp only [Act.put,List.setIfInBounds_toArray,List.set_cons_succ,List.set_cons_zero]
     refine wpAnyH_take (i := 6) (oi := ⟨some 87,.indexAddr 81 (.tmp 85) (.tmp 86),0,"ref.go:429",#[⟨4,.data⟩,⟨5,.data⟩],none⟩) (v := ?_) rfl (by kernel_rfl) (by kernel_rfl) (by kernel_rfl) (fun _ _ _ h => h) (Or.inl ⟨by rfl, ?_⟩) (by assumption) ?_
     rotate_left 1
     ·intro w hSw
      try dsimp only at hSw
      go_simp
      all_goals with_reducible rfl
     try simp only [Act.put,List.setIfInBounds_toArray,List.set_cons_succ,List.set_cons_zero]
     refine wpAnyH_take (i := 7) (oi := ⟨some 88,.load 109 (.tmp 87),109,"ref.go:429",#[⟨6,.data⟩],none⟩) (v := ?_) rfl (by kernel_rfl) (by kernel_rfl) (by kernel_rfl) (fun _ _ _ h => h) (Or.inl ⟨by rfl, ?_⟩) (by assumption) ?_
     rotate_left 1
     ·intro w hSw
      try dsimp only at hSw
      go_simp
      all_goals with_reducible rfl
     try simp only [Act.put,List.setIfInBounds_toArray,List.set_cons_succ,List.set_cons_zero]
     refine wpAnyH_take (i := 8) (oi := ⟨some 89,.move (.tmp 1),35,"ref.go:429",#[],none⟩) (v := ?_) rfl (by kernel_rfl) (by kernel_rfl) (by kernel_rfl) (fun _ _ _ h => h) (Or.inl ⟨by rfl, ?_⟩) (by assumption) ?_
     rotate_left 1
     ·intro w hSw
      try dsimp only at hSw
      go_simp
      all_goals with_reducible rfl
     try simp only [Act.put,List.setIfInBounds_toArray,List.set_cons_succ,List.set_cons_zero]
     refine wpAnyH_take (i := 9) (oi := ⟨some 90,.move (.tmp 5),3,"ref.go:429",#[],none⟩) (v := ?_) rfl (by kernel_rfl) (by kernel_rfl) (by kernel_rfl) (fun _ _ _ h => h) (Or.inl ⟨by rfl, ?_⟩) (by assumption) ?_
     rotate_left 1
     ·intro w hSw
      try dsimp only at hSw
      go_simp
      all_goals with_reducible rfl
     try simp only [Act.put,List.setIfInBounds_toArray,List.set_cons_succ,List.set_cons_zero]
     refine wpAnyH_take (i := 10) (oi := ⟨some 91,.indexAddr 35 (.tmp 89) (.tmp 90),0,"ref.go:429",#[⟨8,.data⟩,⟨9,.data⟩],none⟩) (v := ?_) rfl (by kernel_rfl) (by kernel_rfl) (by kernel_rfl) (fun _ _ _ h => h) (Or.inl ⟨by rfl, ?_⟩) (by assumption) ?_
     rotate_left 1
     ·intro w hSw
      try dsimp only at hSw
      go_simp
      all_goals with_reducible rfl
     try simp only [Act.put,List.setIfInBounds_toArray,List.set_cons_succ,List.set_cons_zero]
     refine wpAnyH_take (i := 11) (oi := ⟨some 92,.fieldAddr 83 (.tmp 91) 3,0,"ref.go:429",#[⟨10,.data⟩],none⟩) (v := ?_) rfl (by kernel_rfl) (by kernel_rfl) (by kernel_rfl) (fun _ _ _ h => h) (Or.inl ⟨by rfl, ?_⟩) (by assumption) ?_
     rotate_left 1
     ·intro w hSw
      try dsimp only at hSw
      go_simp
      all_goals with_reducible rfl
     try simp only [Act.put,List.setIfInBounds_toArray,List.set_cons_succ,List.set_cons_zero]
     refine wpAnyH_take (i := 12) (oi := ⟨some 93,.load 81 (.tmp 92),81,"ref.go:429",#[⟨11,.data⟩],none⟩) (v := ?_) rfl (by kernel_rfl) (by kernel_rfl) (by kernel_rfl) (fun _ _ _ h => h) (Or.inl ⟨by rfl, ?_⟩) (by assumption) ?_
     rotate_left 1
     ·intro w hSw
      try dsimp only at hSw
      go_simp
      all_goals with_reducible rfl
     try simp only [Act.put,List.setIfInBounds_toArray,List.set_cons_succ,List.set_cons_zero]
     refine wpAnyH_take (i := 13) (oi := ⟨some 94,.move (.tmp 6),3,"ref.go:429",#[],none⟩) (v := ?_) rfl (by kernel_rfl) (by kernel_rfl) (by kernel_rfl) (fun _ _ _ h => h) (Or.inl ⟨by rfl, ?_⟩) (by assumption) ?_
     rotate_left 1
     ·intro w hSw
      try dsimp only at hSw
      go_simp
      all_goals with_reducible rfl
     try simp only [Act.put,List.setIfInBounds_toArray,List.set_cons_succ,List.set_cons_zero]
     refine wpAnyH_take (i := 14) (oi := ⟨some 95,.indexAddr 81 (.tmp 93) (.tmp 94),0,"ref.go:429",#[⟨12,.data⟩,⟨13,.data⟩],none⟩) (v := ?_) rfl (by kernel_rfl) (by kernel_rfl) (by kernel_rfl) (fun _ _ _ h => h) (Or.inl ⟨by rfl, ?_⟩) (by assumption) ?_
     rotate_left 1
     ·intro w hSw
      try dsimp only at hSw
      go_simp
      all_goals with_reducible rfl
     try simp only [Act.put,List.setIfInBounds_toArray,List.set_cons_succ,List.set_cons_zero]
     refine wpAnyH_take (i := 15) (oi := ⟨some 96,.load 109 (.tmp 95),109,"ref.go:429",#[⟨14,.data⟩],none⟩) (v := ?_) rfl (by kernel_rfl) (by kernel_rfl) (by kernel_rfl) (fun _ _ _ h => h) (Or.inl ⟨by rfl, ?_⟩) (by assumption) ?_
     rotate_left 1
     ·intro w hSw
      try dsimp only at hSw
      go_simp
      all_goals with_reducible rfl
     try simp only [Act.put,List.setIfInBounds_toArray,List.set_cons_succ,List.set_cons_zero]
     refine wpAnyH_ready (rs := [16]) (by kernel_rfl) (by simp) ?_
     refine AllReadyH.cons (o := ⟨some 97,.call { callee := .value (.func 72),args := #[.tmp 88,.tmp 96],argTypes := #[109,109] },4,"ref.go:429",#[⟨7,.data⟩,⟨15,.data⟩],none⟩) rfl (fun K hK => ?_) AllReadyH.nil
     go_simp
     refine (svalue_calls v B3 p3 B4 p4 B3' p3' B4' p4' HS.out.drew HV.out.1 HV.out.2.1 HV.out.2.2.1 HV.out.2.2.2).mono ?_
     rintro e w4 ⟨rfl,h4⟩
     refine hK.out _ _ ?_ (fun hHeld => ?_)
     ·exact ⟨⟨(HF.out _ h4.below).1.1.2.2,(HF.out _ h4.below).1.2.2.2⟩,HFv.out _ h4.below⟩
     clear hK K
     try simp only [Act.put,List.setIfInBounds_toArray,List.set_cons_succ,List.set_cons_zero]
     refine wpAnyH_take (i := 17) (oi := ⟨some 98,.unOp .not 4 (.tmp 97),4,"ref.go:429",#[⟨16,.data⟩],none⟩) (v := ?_) rfl (by kernel_rfl) (by kernel_rfl) (by kernel_rfl) (fun _ _ _ h => h) (Or.inl ⟨by rfl, ?_⟩) (by assumption) ?_
     rotate_left 1
     ·intro w hSw
      try dsimp only at hSw
      go_simp
      all_goals with_reducible rfl
     try simp only [Act.put,List.setIfInBounds_toArray,List.set_cons_succ,List.set_cons_zero]
     refine wpAnyH_done (by kernel_rfl) ?_ _
     have HD := Lib.hid h4
     clear h4 hHeld HS
     go_wp2
     exact ⟨⟨y + 1,by omega,by omega,by go_num,HD⟩,by simp only [intOf]; omega⟩
    ·have hlt' : (y < (r.d.length : Int)) = False := eq_false hly
     go_wp2
     exact ⟨⟨x + 1,by omega,by omega,by go_num,HS⟩,by simp only [intOf]; omega⟩
  ·have hlt' : (x < (l.length : Int)) = False := eq_false hlt
   go_wp2
   go_ret
   exact ⟨rfl,HR.out⟩
end Go.Proofs.YtbjddomocggjmaaGreat.Sc
