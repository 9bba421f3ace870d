/- few of the law: walked; what it tells. -/
import Derived.Deep.Cut
import Derived.Test.YtbjddomocggjmaaGreatLT
import Derived.Test.YtbjddomocggjmaaGreatLAl
namespace Go.Proofs.YtbjddomocggjmaaGreat.Sc
open Go.RowKit Go.ChangeShapes Go.WideShapes Go.Proofs.YtbjddomocggjmaaGreat.Sep
open Go.Proofs.YtbjddomocggjmaaGreatW.PrintWords
variable {B : Nat} {w0 w : World} {R : HP}
def Few10 (l : List Md) (n : Int) : Prop := 256 < l.length ∨ ((l.length : Int) ≤ n ∧ ∀ m ∈ l,(m.df.length : Int) ≤ n)
set_option maxHeartbeats 16000000 in
set_option maxRecDepth 100000 in
theorem lfew_calls (A : Option Addr) (c : Nat) (l : List Md) (n : Int) (hn0 : 0 ≤ n) (hn1 : n ≤ 1000) (h : S w0 w R) (hC : kMd.C w0 A l.length l) (ho : ∀ m ∈ l,oMd m) :
  Calls Tryz.prog 5 #[.slice A l.length c,.int .i64 n] w fun e w' => ∃ b,e = .returned (.bool b) ∧ S w0 w' R ∧ (b = true → Few10 l n) := by
 have hl : l.length ≤ 9223372036854775807 := hC.2.1
 have HA := Lib.hid (And.intro hC ho)
 have H := Lib.hid h
 clear h hC ho
 by_cases q0 : n < l.length
 ·have p0 : decide (n < (l.length : Int)) = true := decide_eq_true q0
  have p0' : (n < (l.length : Int)) = True := eq_true q0
  by_cases q1 : 256 < l.length
  ·have p1 : decide ((256 : Int) < (l.length : Int)) = true := decide_eq_true (by omega)
   have HQ : Hid (Few10 l n) := Lib.hid (.inl q1)
   clear q1 q0
   go_enter Tryz.func5,Tryz.ntmps5
   go_wp2
   go_ret
   exact ⟨_,rfl,H.out,fun _ => HQ.out⟩
  ·have p1 : decide ((256 : Int) < (l.length : Int)) = false := decide_eq_false (by omega)
   clear q1 q0
   go_enter Tryz.func5,Tryz.ntmps5
   go_wp2
   go_ret
   exact ⟨_,rfl,H.out,fun h => (by cases h)⟩
 have p0 : decide (n < (l.length : Int)) = false := decide_eq_false q0
 have p0' : (n < (l.length : Int)) = False := eq_false q0
 have hln : (l.length : Int) ≤ n := by omega
 clear q0
 go_enter Tryz.func5,Tryz.ntmps5
 go_wp2
 go_loopw [5,6] (fun v5 v6 wr => ∃ k x : Int,0 ≤ k ∧ k ≤ n ∧ 0 ≤ x ∧ x ≤ l.length ∧ v5 = .int .i64 k ∧ v6 = .int .i64 x ∧ Hid (S w0 wr R) ∧ Hid (∀ m ∈ l.take x.toNat,(m.df.length : Int) ≤ n)) (fun _ v _ => l.length - (intOf v).toNat)
 case atStart => exact ⟨0,0,Int.le_refl _,hn0,Int.le_refl _,by omega,rfl,rfl,H,Lib.hid (by simp)⟩
 case round =>
  clear H
  obtain ⟨k,x,hk0,hk1,hx0,hx1,rfl,rfl,HR,HT⟩ := hrel
  by_cases hlt : x < l.length
  ·obtain ⟨ad,cs,eA,hcl0,hK,hcell0⟩ := Kd.C_get HA.out.1 zMd x hx0 hlt
   cases eA
   have hcell : ∀ (j : Nat) (u : Value),cs[j]? = some u → w0.cell? (ad.add (x.toNat * 4 + j)) = some u := hcell0
   have HG := Lib.hid (getD_mem l zMd x hx0 hlt)
   generalize l.getD x.toNat zMd = r at *
   obtain ⟨A2,c2,A3,c3,rfl, -,g2, -,g3⟩ := kMd_open (show kMd.K w0 r cs from hK)
   have HC := Lib.hid (And.intro g2 (And.intro g3 (HA.out.2 r (List.mem_of_getElem? HG.out))))
   have HF : Hid (∀ W,Below w0.heap.size w0 W → ∀ (j : Nat),0 < j → ∀ u,([.string r.n,.bool r.au,.slice A2 r.im.length c2,.slice A3 r.df.length c3] : List Value)[j]? = some u → W.cell? ⟨(ad.add (x.toNat * 4)).block,(ad.add (x.toNat * 4)).off + j,none⟩ = some u) := Lib.hid fun W hW j hj u hu => by
    have := pw_cell_below hW (hcell j u hu)
    rwa [add_field ad _ _ hj] at this
   have p126 := eq_true hx0
   have q126 : (x < (l.length : Int)) = True := eq_true hlt
   have hi : r.im.length ≤ 140737488355328 := HC.out.2.2.2.1.1
   have hd : r.df.length ≤ 140737488355328 := HC.out.2.2.2.2.1
   have hdl : r.df.length ≤ 9223372036854775807 := by omega
   have hil : r.im.length ≤ 9223372036854775807 := by omega
   have w1 : IntKind.i64.wrap (k + r.df.length) = k + r.df.length := by rw [IntKind.wrap_i64]; omega
   have w2 : IntKind.i64.wrap (k + r.df.length + r.im.length) = k + r.df.length + r.im.length := by rw [IntKind.wrap_i64]; omega
   clear hcell hcell0 hcl0 hK g2 g3
   go_wp2_with fail
   refine wp_region_held_drew (S := (fun w' => w'.cell? ⟨(ad.add (x.toNat * 4)).block,(ad.add (x.toNat * 4)).off + 2,none⟩ = some (.slice A2 r.im.length c2) ∧ w'.cell? ⟨(ad.add (x.toNat * 4)).block,(ad.add (x.toNat * 4)).off + 3,none⟩ = some (.slice A3 r.df.length c3))) (by kernel_rfl) ?_ (fun hHeld => ?_)
   ·exact ⟨HF.out _ (HR.out.drew).below 2 (by decide) _ rfl,HF.out _ (HR.out.drew).below 3 (by decide) _ rfl⟩
   refine wpAnyH_take (i := 0) (oi := ⟨some 22,.move (.tmp 5),3,"law.go:27",#[],none⟩) (v := ?_) rfl (by kernel_rfl) (by kernel_rfl) (by kernel_rfl) (fun _ _ _ h => h) (Or.inl ⟨by rfl, ?_⟩) (by assumption) ?_
   rotate_left 1
   ·intro w hSw
    try dsimp only at hSw
    go_simp
    all_goals with_reducible rfl
   try simp only [Act.put,q3]
   refine wpAnyH_take (i := 1) (oi := ⟨some 23,.move (.tmp 0),22,"law.go:27",#[],none⟩) (v := ?_) rfl (by kernel_rfl) (by kernel_rfl) (by kernel_rfl) (fun _ _ _ h => h) (Or.inl ⟨by rfl, ?_⟩) (by assumption) ?_
   rotate_left 1
   ·intro w hSw
    try dsimp only at hSw
    go_simp
    all_goals with_reducible rfl
   try simp only [Act.put,q3]
   refine wpAnyH_take (i := 2) (oi := ⟨some 24,.move (.tmp 6),3,"law.go:27",#[],none⟩) (v := ?_) rfl (by kernel_rfl) (by kernel_rfl) (by kernel_rfl) (fun _ _ _ h => h) (Or.inl ⟨by rfl, ?_⟩) (by assumption) ?_
   rotate_left 1
   ·intro w hSw
    try dsimp only at hSw
    go_simp
    all_goals with_reducible rfl
   try simp only [Act.put,q3]
   refine wpAnyH_take (i := 3) (oi := ⟨some 25,.indexAddr 22 (.tmp 23) (.tmp 24),0,"law.go:27",#[⟨1,.data⟩,⟨2,.data⟩],none⟩) (v := ?_) rfl (by kernel_rfl) (by kernel_rfl) (by kernel_rfl) (fun _ _ _ h => h) (Or.inl ⟨by rfl, ?_⟩) (by assumption) ?_
   rotate_left 1
   ·intro w hSw
    try dsimp only at hSw
    go_simp
    all_goals with_reducible rfl
   try simp only [Act.put,q3]
   refine wpAnyH_take (i := 4) (oi := ⟨some 26,.fieldAddr 44 (.tmp 25) 3,0,"law.go:27",#[⟨3,.data⟩],none⟩) (v := ?_) rfl (by kernel_rfl) (by kernel_rfl) (by kernel_rfl) (fun _ _ _ h => h) (Or.inl ⟨by rfl, ?_⟩) (by assumption) ?_
   rotate_left 1
   ·intro w hSw
    try dsimp only at hSw
    go_simp
    all_goals with_reducible rfl
   try simp only [Act.put,q3]
   refine wpAnyH_take (i := 5) (oi := ⟨some 27,.load 41 (.tmp 26),41,"law.go:27",#[⟨4,.data⟩],none⟩) (v := ?_) rfl (by kernel_rfl) (by kernel_rfl) (by kernel_rfl) (fun _ _ _ h => h) (Or.inl ⟨by rfl, ?_⟩) (by assumption) ?_
   rotate_left 1
   ·intro w hSw
    try dsimp only at hSw
    go_simp
    all_goals with_reducible rfl
   try simp only [Act.put,q3]
   refine wpAnyH_take (i := 6) (oi := ⟨some 28,.call { callee := .builtin .len,args := #[.tmp 27],argTypes := #[41] },3,"law.go:27",#[⟨5,.data⟩],none⟩) (v := ?_) rfl (by kernel_rfl) (by kernel_rfl) (by kernel_rfl) (fun _ _ _ h => h) (Or.inl ⟨by rfl, ?_⟩) (by assumption) ?_
   rotate_left 1
   ·intro w hSw
    try dsimp only at hSw
    go_simp
    all_goals with_reducible rfl
   try simp only [Act.put,q3]
   refine wpAnyH_take (i := 7) (oi := ⟨some 29,.binOp .add 3 (.tmp 22) (.tmp 28) 3,3,"law.go:27",#[⟨0,.data⟩,⟨6,.data⟩],none⟩) (v := ?_) rfl (by kernel_rfl) (by kernel_rfl) (by kernel_rfl) (fun _ _ _ h => h) (Or.inl ⟨by rfl, ?_⟩) (by assumption) ?_
   rotate_left 1
   ·intro w hSw
    try dsimp only at hSw
    go_simp
    all_goals with_reducible rfl
   try simp only [Act.put,q3]
   refine wpAnyH_take (i := 8) (oi := ⟨some 30,.move (.tmp 0),22,"law.go:27",#[],none⟩) (v := ?_) rfl (by kernel_rfl) (by kernel_rfl) (by kernel_rfl) (fun _ _ _ h => h) (Or.inl ⟨by rfl, ?_⟩) (by assumption) ?_
   rotate_left 1
   ·intro w hSw
    try dsimp only at hSw
    go_simp
    all_goals with_reducible rfl
   try simp only [Act.put,q3]
   refine wpAnyH_take (i := 9) (oi := ⟨some 31,.move (.tmp 6),3,"law.go:27",#[],none⟩) (v := ?_) rfl (by kernel_rfl) (by kernel_rfl) (by kernel_rfl) (fun _ _ _ h => h) (Or.inl ⟨by rfl, ?_⟩) (by assumption) ?_
   rotate_left 1
   ·intro w hSw
    try dsimp only at hSw
    go_simp
    all_goals with_reducible rfl
   try simp only [Act.put,q3]
   refine wpAnyH_take (i := 10) (oi := ⟨some 32,.indexAddr 22 (.tmp 30) (.tmp 31),0,"law.go:27",#[⟨8,.data⟩,⟨9,.data⟩],none⟩) (v := ?_) rfl (by kernel_rfl) (by kernel_rfl) (by kernel_rfl) (fun _ _ _ h => h) (Or.inl ⟨by rfl, ?_⟩) (by assumption) ?_
   rotate_left 1
   ·intro w hSw
    try dsimp only at hSw
    go_simp
    all_goals with_reducible rfl
   try simp only [Act.put,q3]
   refine wpAnyH_take (i := 11) (oi := ⟨some 33,.fieldAddr 44 (.tmp 32) 2,0,"law.go:27",#[⟨10,.data⟩],none⟩) (v := ?_) rfl (by kernel_rfl) (by kernel_rfl) (by kernel_rfl) (fun _ _ _ h => h) (Or.inl ⟨by rfl, ?_⟩) (by assumption) ?_
   rotate_left 1
   ·intro w hSw
    try dsimp only at hSw
    go_simp
    all_goals with_reducible rfl
   try simp only [Act.put,q3]
   refine wpAnyH_take (i := 12) (oi := ⟨some 34,.load 42 (.tmp 33),42,"law.go:27",#[⟨11,.data⟩],none⟩) (v := ?_) rfl (by kernel_rfl) (by kernel_rfl) (by kernel_rfl) (fun _ _ _ h => h) (Or.inl ⟨by rfl, ?_⟩) (by assumption) ?_
   rotate_left 1
   ·intro w hSw
    try dsimp only at hSw
    go_simp
    all_goals with_reducible rfl
   try simp only [Act.put,q3]
   refine wpAnyH_take (i := 13) (oi := ⟨some 35,.call { callee := .builtin .len,args := #[.tmp 34],argTypes := #[42] },3,"law.go:27",#[⟨12,.data⟩],none⟩) (v := ?_) rfl (by kernel_rfl) (by kernel_rfl) (by kernel_rfl) (fun _ _ _ h => h) (Or.inl ⟨by rfl, ?_⟩) (by assumption) ?_
   rotate_left 1
   ·intro w hSw
    try dsimp only at hSw
    go_simp
    all_goals with_reducible rfl
   try simp only [Act.put,q3]
   refine wpAnyH_take (i := 14) (oi := ⟨some 36,.binOp .add 3 (.tmp 29) (.tmp 35) 3,3,"law.go:27",#[⟨7,.data⟩,⟨13,.data⟩],none⟩) (v := ?_) rfl (by kernel_rfl) (by kernel_rfl) (by kernel_rfl) (fun _ _ _ h => h) (Or.inl ⟨by rfl, ?_⟩) (by assumption) ?_
   rotate_left 1
   ·intro w hSw
    try dsimp only at hSw
    go_simp
    all_goals with_reducible rfl
   try simp only [Act.put,q3]
   refine wpAnyH_take (i := 15) (oi := ⟨some 5,.assign (.tmp 36),3,"law.go:27",#[⟨14,.data⟩,⟨0,.phase⟩,⟨1,.phase⟩,⟨2,.phase⟩,⟨3,.phase⟩,⟨4,.phase⟩,⟨5,.phase⟩,⟨6,.phase⟩,⟨7,.phase⟩,⟨8,.phase⟩,⟨9,.phase⟩,⟨10,.phase⟩,⟨11,.phase⟩,⟨12,.phase⟩,⟨13,.phase⟩,⟨14,.phase⟩],none⟩) (v := ?_) rfl (by kernel_rfl) (by kernel_rfl) (by kernel_rfl) (fun _ _ _ h => h) (Or.inl ⟨by rfl, ?_⟩) (by assumption) ?_
   rotate_left 1
   ·intro w hSw
    try dsimp only at hSw
    go_simp
    all_goals with_reducible rfl
   try simp only [Act.put,q3]
   refine wpAnyH_done (by kernel_rfl) ?_ _
   have HD := Lib.hid HR.out.drew
   generalize wr.drew = wd at HD ⊢
   clear HR hHeld w1 w2
   by_cases q2 : n < k + r.df.length + r.im.length
   ·have p2 : decide (n < k + r.df.length + r.im.length) = true := decide_eq_true q2
    have p3 : (n < k + (r.df.length : Int) + r.im.length) = True := eq_true q2
    go_wp2
    go_ret
    exact ⟨_,rfl,HD.out,fun h => (by cases h)⟩
   have p2 : decide (n < k + r.df.length + r.im.length) = false := decide_eq_false q2
   have p3 : (n < k + (r.df.length : Int) + r.im.length) = False := eq_false q2
   have hnx : 0 ≤ k + (r.df.length : Int) + r.im.length ∧ k + (r.df.length : Int) + r.im.length ≤ n := by omega
   have hT2 : ∀ m ∈ l.take (x + 1).toNat,(m.df.length : Int) ≤ n := by
    have e1 : (x + 1).toNat = x.toNat + 1 := by omega
    rw [e1,List.take_add_one,HG.out]
    intro m hm
    rcases List.mem_append.1 hm with hm | hm
    ·exact HT.out m hm
    ·rw [show m = r by simpa using hm]
     omega
   have HT2 := Lib.hid (And.intro hT2 hnx)
   clear hT2 hnx q2 hi hd
   generalize k + (r.df.length : Int) + r.im.length = k2 at *
   have f3 := HF.out _ HD.out.below 3 (by decide) _ rfl
   go_wp2
   go_loopw [7] (fun v wr => ∃ y : Int,0 ≤ y ∧ y ≤ r.df.length ∧ v = .int .i64 y ∧ Hid (S w0 wr R)) (fun v _ => r.df.length - (intOf v).toNat)
   case atStart => exact ⟨0,Int.le_refl _,by omega,rfl,HD⟩
   case round =>
    clear HD f3
    obtain ⟨y,hy0,hy1,rfl,HS⟩ := hrel
    have f3 := HF.out _ HS.out.below 3 (by decide) _ rfl
    by_cases hly : y < r.df.length
    ·obtain ⟨ad3,cs,eA,hcl0,hK,hcell0⟩ := Kd.C_get HC.out.2.1 zDf y hy0 hly
     cases eA
     have hcell : ∀ (j : Nat) (u : Value),cs[j]? = some u → w0.cell? (ad3.add (y.toNat * 16 + j)) = some u := hcell0
     have HGd := Lib.hid (getD_mem r.df zDf y hy0 hly)
     generalize r.df.getD y.toNat zDf = d at *
     obtain ⟨ts,hD⟩ := df_cells hK
     have HDc := Lib.hid hD
     have HCt : Hid (∀ (j : Nat) (v : Value),ts[j]? = some v → wr.cell? ⟨(ad3.add (y.toNat * 16)).block,(ad3.add (y.toNat * 16)).off + 1 + j,none⟩ = some v) := Lib.hid fun j v hv => by
      have := pw_cell_below HS.out.below (hcell (1 + j) v (HDc.out.typ j v hv))
      rwa [add_field ad3 _ _ (by omega), ← Nat.add_assoc] at this
     have p127 := eq_true hy0
     have q127 : (y < (r.df.length : Int)) = True := eq_true hly
     clear hcell hcell0 hcl0 hK hD
     go_wp2_with (refine held_load 38 _ rfl ?_)
     refine ⟨?_⟩
     refine wpList_load_cells rfl 38 _ rfl _ rfl ts (fun j v hv => by rw [WideShapes.add_plain]; exact HCt.out j v hv) _ Tryz.underlying38 rfl (by rw [HDc.out.tlen]; kernel_rfl) ?_
     go_wp2_with fail
     refine (few_calls d.t ts n HS.out HDc.out.kt).mono ?_
     rintro e w3 ⟨b,rfl,h3⟩
     have H3 := Lib.hid h3
     clear h3 f3
     cases b with
     | false =>
      go_wp2
      go_ret
      exact ⟨_,rfl,H3.out,fun h => (by cases h)⟩
     | true =>
      go_wp2
      exact ⟨⟨y + 1,by omega,by omega,by go_num,H3⟩,by simp only [intOf]; omega⟩
    ·have hlt' : (y < (r.df.length : Int)) = False := eq_false hly
     have f2 := HF.out _ HS.out.below 2 (by decide) _ rfl
     go_wp2
     go_loopw [8] (fun v wr => ∃ y : Int,0 ≤ y ∧ y ≤ r.im.length ∧ v = .int .i64 y ∧ Hid (S w0 wr R)) (fun v _ => r.im.length - (intOf v).toNat)
     case atStart => exact ⟨0,Int.le_refl _,by omega,rfl,HS⟩
     case round =>
      clear HS f3 f2
      obtain ⟨z,hz0,hz1,rfl,HU⟩ := hrel
      have f2 := HF.out _ HU.out.below 2 (by decide) _ rfl
      by_cases hlz : z < r.im.length
      ·obtain ⟨ad2,cs,eA,hcl0,hK,hcell0⟩ := Kd.C_get HC.out.1 zIm z hz0 hlz
       cases eA
       have hcell : ∀ (j : Nat) (u : Value),cs[j]? = some u → w0.cell? (ad2.add (z.toNat * 2 + j)) = some u := hcell0
       generalize r.im.getD z.toNat zIm = im at *
       obtain ⟨A0,c0,rfl, -⟩ := PScopeResolves.k50_open (id hK)
       have g0 : wr.cell? (ad2.add (z.toNat * 2)) = some (.slice A0 im.f0.length c0) := pw_cell_below HU.out.below (hcell 0 _ rfl)
       have p128 := eq_true hz0
       have q128 : (z < (r.im.length : Int)) = True := eq_true hlz
       clear hcell hcell0 hcl0 hK
       by_cases q3 : n < im.f0.length
       ·have p3 : decide (n < (im.f0.length : Int)) = true := decide_eq_true q3
        have p4 : (n < (im.f0.length : Int)) = True := eq_true q3
        go_wp2
        go_ret
        exact ⟨_,rfl,HU.out,fun h => (by cases h)⟩
       ·have p3 : decide (n < (im.f0.length : Int)) = false := decide_eq_false q3
        have p4 : (n < (im.f0.length : Int)) = False := eq_false q3
        go_wp2
        exact ⟨⟨z + 1,by omega,by omega,by go_num,HU⟩,by simp only [intOf]; omega⟩
      ·have hlt'' : (z < (r.im.length : Int)) = False := eq_false hlz
       go_wp2
       exact ⟨⟨k2,x + 1,HT2.out.2.1,HT2.out.2.2,by omega,by omega,rfl,by go_num,HU,Lib.hid HT2.out.1⟩,by simp only [intOf]; omega⟩
  ·have hlt' : (x < (l.length : Int)) = False := eq_false hlt
   have HZ : Hid (Few10 l n) := Lib.hid (.inr ⟨hln,fun m hm => HT.out m (by rw [List.take_of_length_le (by omega)]; exact hm)⟩)
   go_wp2
   go_ret
   exact .inr ⟨rfl,HR.out,HZ.out⟩
end Go.Proofs.YtbjddomocggjmaaGreat.Sc
