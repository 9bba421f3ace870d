/- append and Clone at the schemas' types: what is made, and what it reads as. -/
import Derived.Shelf.Abstract
import Derived.Deep.MidRow
import Derived.Test.YtbjddomocggjmaaGreatLD
section
namespace Go.Proofs.YtbjddomocggjmaaGreat.Sc
open Go.RowKit Go.ChangeShapes Go.WideShapes Go.Proofs.YtbjddomocggjmaaGreat.Sep
open Go.Proofs.YtbjddomocggjmaaGreatW.PrintWords
variable {B : Nat} {w0 w w1 : World} {R : HP}
abbrev S (w0 w : World) (R : HP) : Prop := St w0.heap.size w0 w R
def Tells {α : Type} (d : Kd α) (w0 : World) (R : HP) (g : Nat) (lb : Array Value) (l : List α) (p : α → Bool) : Prop :=
 ∀ (W : World) (x : α),S w0 W R → x ∈ l → ∀ cs : List Value,d.K w0 x cs → Calls Tryz.prog g (#[.agg cs.toArray] ++ lb) W fun e w' => e = .returned (.bool (p x)) ∧ S w0 w' R
def TellsS (w0 : World) (R : HP) (g : Nat) (lb : Array Value) (l : List ByteArray) (p : ByteArray → Bool) : Prop :=
 ∀ (W : World) (x : ByteArray),S w0 W R → x ∈ l → Calls Tryz.prog g (#[.string x] ++ lb) W fun e w' => e = .returned (.bool (p x)) ∧ S w0 w' R
def Place {α : Type} (p : α → Bool) (l : List α) (i : Int) : Prop :=
 (∃ (k : Nat) (x : α),i = k ∧ l[k]? = some x ∧ p x = true ∧ ∀ y ∈ l.take k,p y = false) ∨ (i = -1 ∧ ∀ y ∈ l,p y = false)
theorem getD_mem {α : Type} (l : List α) (z : α) (x : Int) (h0 : 0 ≤ x) (h1 : x < l.length) : l[x.toNat]? = some (l.getD x.toNat z) := by
 rw [List.getD_eq_getElem?_getD,List.getElem?_eq_getElem (by omega)]; rfl
theorem all_any {α : Type} (p : α → Bool) (l : List α) : l.all p = !(l.any fun x => !p x) := by
 induction l with
 | nil => rfl
 | cons a l ih => simp [ih]
set_option maxHeartbeats 1600000 in
set_option maxRecDepth 100000 in
theorem index_strs (g : Nat) (lb : Array Value) (eg : ∀ args w,(callFunc g args).run Tryz.prog w = .ok (.enter g args) w) (p : ByteArray → Bool) (A : Option Addr) (c : Nat) (l : List (ByteArray)) (hC : Kd.string.C w0 A l.length l) (h : S w0 w R) (hp : TellsS w0 R g lb l p) :
  Calls Tryz.prog 56 #[.slice A l.length c,.func (.func g) #[] lb] w fun e w' => ∃ i : Int,e = .returned (.int .i64 i) ∧ S w0 w' R ∧ Place p l i := by
 have H := Lib.hid (And.intro h (And.intro hC hp))
 have hl : l.length ≤ 9223372036854775807 := hC.2.1
 clear h hC hp
 go_enter Tryz.func56,Tryz.ntmps56
 go_wp2
 go_loopw [5,8] (fun _ i wr => ∃ x : Int,0 ≤ x ∧ x ≤ l.length ∧ i = .int .i64 x ∧ Hid (S w0 wr R) ∧ Hid (∀ y ∈ l.take x.toNat,p y = false)) (fun _ i _ => l.length - (intOf i).toNat)
 case atStart => exact ⟨0,Int.le_refl _,by omega,rfl,Lib.hid H.out.1,Lib.hid (by simp)⟩
 case round =>
  obtain ⟨x,hx0,hx1,rfl,HS,HN⟩ := hrel
  by_cases hlt : x < l.length
  ·obtain ⟨ad,cs,rfl,hcl0,hK0,hcell0⟩ := Kd.C_get H.out.2.1 (⟨#[]⟩ : ByteArray) x hx0 hlt
   have hcell : ∀ (j : Nat) (u : Value),cs[j]? = some u → w0.cell? (ad.add (x.toNat * 1 + j)) = some u := hcell0
   have hcl : cs.length = 1 := hcl0
   have hK := hK0
   clear hcell0 hcl0 hK0
   have HR := Lib.hid (getD_mem l (⟨#[]⟩ : ByteArray) x hx0 hlt)
   obtain rfl : cs = [.string (l.getD x.toNat (⟨#[]⟩ : ByteArray))] := hK
   have hcall := H.out.2.2 wr _ HS.out (List.mem_of_getElem? HR.out)
   generalize l.getD x.toNat (⟨#[]⟩ : ByteArray) = r at *
   have d0 : wr.cell? (ad.add x.toNat) = some (.string r) := by have h := pw_cell_below HS.out.below (hcell 0 _ rfl); rwa [Nat.mul_one,Nat.add_zero] at h
   try clear hcell
   try clear hK
   try clear hcl
   have p126 := eq_true hx0
   have q126 : (x < (l.length : Int)) = True := eq_true hlt
   cases hq : p r with
   | true =>
    rw [hq] at hcall
    have HQ := Lib.hid hq
    clear hq
    go_wp2_with (go_at_fn g; refine hcall.mono ?_; rintro e w' ⟨rfl,hb'⟩)
    go_ret
    exact ⟨x,rfl,hb',.inl ⟨x.toNat,r,by omega,HR.out,HQ.out,HN.out⟩⟩
   | false =>
    rw [hq] at hcall
    have HQ := Lib.hid hq
    clear hq
    go_wp2_with (go_at_fn g; refine hcall.mono ?_; rintro e w' ⟨rfl,hb'⟩)
    refine ⟨⟨x + 1,by omega,by omega,by go_num,Lib.hid hb',Lib.hid ?_⟩,by simp only [intOf]; omega⟩
    intro y hy
    have e1 : (x + 1).toNat = x.toNat + 1 := by omega
    rw [e1,List.take_add_one,HR.out] at hy
    rcases List.mem_append.1 hy with hy | hy
    ·exact HN.out y hy
    ·simp at hy
     rw [hy]; exact HQ.out
  ·go_wp2
   go_ret
   exact ⟨_,rfl,HS.out,.inr ⟨rfl,by have h := HN.out; rwa [List.take_of_length_le (by omega)] at h⟩⟩
theorem contains_strs (g : Nat) (lb : Array Value) (eg : ∀ args w,(callFunc g args).run Tryz.prog w = .ok (.enter g args) w) (p : ByteArray → Bool) (A : Option Addr) (c : Nat) (l : List (ByteArray)) (hC : Kd.string.C w0 A l.length l) (h : S w0 w R) (hp : TellsS w0 R g lb l p) :
  Calls Tryz.prog 29 #[.slice A l.length c,.func (.func g) #[] lb] w fun e w' => e = .returned (.bool (l.any p)) ∧ S w0 w' R := by
 have hi := index_strs g lb eg p A c l hC h hp
 clear h hC hp
 go_enter Tryz.func29,Tryz.ntmps29
 go_wp2_with fail
 refine hi.mono ?_
 rintro e w' ⟨i,rfl,h2,h3⟩
 have H2 := Lib.hid h2
 rcases h3 with ⟨k,r,rfl,hr,hpr, -⟩ | ⟨rfl,hn⟩
 ·have e1 : l.any p = true := List.any_eq_true.2 ⟨r,List.mem_of_getElem? hr,hpr⟩
  go_wp2
  go_ret
  rw [e1]
  exact ⟨rfl,H2.out⟩
 ·have e1 : l.any p = false := List.any_eq_false.2 fun x hx => by rw [hn x hx]; simp
  go_wp2
  go_ret
  rw [e1]
  exact ⟨rfl,H2.out⟩
set_option maxHeartbeats 1600000 in
set_option maxRecDepth 100000 in
theorem index_cons (g : Nat) (lb : Array Value) (eg : ∀ args w,(callFunc g args).run Tryz.prog w = .ok (.enter g args) w) (p : Con → Bool) (A : Option Addr) (c : Nat) (l : List (Con)) (hC : kCon.C w0 A l.length l) (h : S w0 w R) (hp : Tells kCon w0 R g lb l p) :
  Calls Tryz.prog 106 #[.slice A l.length c,.func (.func g) #[] lb] w fun e w' => ∃ i : Int,e = .returned (.int .i64 i) ∧ S w0 w' R ∧ Place p l i := by
 have H := Lib.hid (And.intro h (And.intro hC hp))
 have hl : l.length ≤ 9223372036854775807 := hC.2.1
 clear h hC hp
 go_enter Tryz.func106,Tryz.ntmps106
 go_wp2
 go_loopw [5,8] (fun _ i wr => ∃ x : Int,0 ≤ x ∧ x ≤ l.length ∧ i = .int .i64 x ∧ Hid (S w0 wr R) ∧ Hid (∀ y ∈ l.take x.toNat,p y = false)) (fun _ i _ => l.length - (intOf i).toNat)
 case atStart => exact ⟨0,Int.le_refl _,by omega,rfl,Lib.hid H.out.1,Lib.hid (by simp)⟩
 case round =>
  obtain ⟨x,hx0,hx1,rfl,HS,HN⟩ := hrel
  by_cases hlt : x < l.length
  ·obtain ⟨ad,cs,rfl,hcl0,hK0,hcell0⟩ := Kd.C_get H.out.2.1 zCon x hx0 hlt
   have hcell : ∀ (j : Nat) (u : Value),cs[j]? = some u → w0.cell? (ad.add (x.toNat * 6 + j)) = some u := hcell0
   have hcl : cs.length = 6 := hcl0
   have hK := hK0
   clear hcell0 hcl0 hK0
   have HR := Lib.hid (getD_mem l zCon x hx0 hlt)
   have hcall := H.out.2.2 wr _ HS.out (List.mem_of_getElem? HR.out) _ hK
   obtain ⟨A5,c5,rfl, -⟩ := PScopeResolves.k33_open (id hK)
   generalize l.getD x.toNat zCon = r at *
   have d0 : wr.cell? (ad.add (x.toNat * 6)) = some (.int .i64 r.f0) := pw_cell_below HS.out.below (hcell 0 _ rfl)
   have d1 : wr.cell? ⟨(ad.add (x.toNat * 6)).block,(ad.add (x.toNat * 6)).off + 1,none⟩ = some (.int .i64 r.f1) := by rw [← add_field _ _ 1 (by omega)]; exact pw_cell_below HS.out.below (hcell 1 _ rfl)
   have d2 : wr.cell? ⟨(ad.add (x.toNat * 6)).block,(ad.add (x.toNat * 6)).off + 2,none⟩ = some (.int .i64 r.f2) := by rw [← add_field _ _ 2 (by omega)]; exact pw_cell_below HS.out.below (hcell 2 _ rfl)
   have d3 : wr.cell? ⟨(ad.add (x.toNat * 6)).block,(ad.add (x.toNat * 6)).off + 3,none⟩ = some (.bool r.f3) := by rw [← add_field _ _ 3 (by omega)]; exact pw_cell_below HS.out.below (hcell 3 _ rfl)
   have d4 : wr.cell? ⟨(ad.add (x.toNat * 6)).block,(ad.add (x.toNat * 6)).off + 4,none⟩ = some (.bool r.f4) := by rw [← add_field _ _ 4 (by omega)]; exact pw_cell_below HS.out.below (hcell 4 _ rfl)
   have d5 : wr.cell? ⟨(ad.add (x.toNat * 6)).block,(ad.add (x.toNat * 6)).off + 5,none⟩ = some (.slice A5 r.f5.length c5) := by rw [← add_field _ _ 5 (by omega)]; exact pw_cell_below HS.out.below (hcell 5 _ rfl)
   try clear hcell
   try clear hK
   try clear hcl
   have p126 := eq_true hx0
   have q126 : (x < (l.length : Int)) = True := eq_true hlt
   cases hq : p r with
   | true =>
    rw [hq] at hcall
    have HQ := Lib.hid hq
    clear hq
    go_wp2_with (go_at_fn g; refine hcall.mono ?_; rintro e w' ⟨rfl,hb'⟩)
    go_ret
    exact ⟨x,rfl,hb',.inl ⟨x.toNat,r,by omega,HR.out,HQ.out,HN.out⟩⟩
   | false =>
    rw [hq] at hcall
    have HQ := Lib.hid hq
    clear hq
    go_wp2_with (go_at_fn g; refine hcall.mono ?_; rintro e w' ⟨rfl,hb'⟩)
    refine ⟨⟨x + 1,by omega,by omega,by go_num,Lib.hid hb',Lib.hid ?_⟩,by simp only [intOf]; omega⟩
    intro y hy
    have e1 : (x + 1).toNat = x.toNat + 1 := by omega
    rw [e1,List.take_add_one,HR.out] at hy
    rcases List.mem_append.1 hy with hy | hy
    ·exact HN.out y hy
    ·simp at hy
     rw [hy]; exact HQ.out
  ·go_wp2
   go_ret
   exact ⟨_,rfl,HS.out,.inr ⟨rfl,by have h := HN.out; rwa [List.take_of_length_le (by omega)] at h⟩⟩
theorem contains_cons (g : Nat) (lb : Array Value) (eg : ∀ args w,(callFunc g args).run Tryz.prog w = .ok (.enter g args) w) (p : Con → Bool) (A : Option Addr) (c : Nat) (l : List (Con)) (hC : kCon.C w0 A l.length l) (h : S w0 w R) (hp : Tells kCon w0 R g lb l p) :
  Calls Tryz.prog 103 #[.slice A l.length c,.func (.func g) #[] lb] w fun e w' => e = .returned (.bool (l.any p)) ∧ S w0 w' R := by
 have hi := index_cons g lb eg p A c l hC h hp
 clear h hC hp
 go_enter Tryz.func103,Tryz.ntmps103
 go_wp2_with fail
 refine hi.mono ?_
 rintro e w' ⟨i,rfl,h2,h3⟩
 have H2 := Lib.hid h2
 rcases h3 with ⟨k,r,rfl,hr,hpr, -⟩ | ⟨rfl,hn⟩
 ·have e1 : l.any p = true := List.any_eq_true.2 ⟨r,List.mem_of_getElem? hr,hpr⟩
  go_wp2
  go_ret
  rw [e1]
  exact ⟨rfl,H2.out⟩
 ·have e1 : l.any p = false := List.any_eq_false.2 fun x hx => by rw [hn x hx]; simp
  go_wp2
  go_ret
  rw [e1]
  exact ⟨rfl,H2.out⟩
set_option maxHeartbeats 1600000 in
set_option maxRecDepth 100000 in
theorem index_pts (g : Nat) (lb : Array Value) (eg : ∀ args w,(callFunc g args).run Tryz.prog w = .ok (.enter g args) w) (p : Pt Ty → Bool) (A : Option Addr) (c : Nat) (l : List (Pt Ty)) (hC : kPt.C w0 A l.length l) (h : S w0 w R) (hp : Tells kPt w0 R g lb l p) :
  Calls Tryz.prog 80 #[.slice A l.length c,.func (.func g) #[] lb] w fun e w' => ∃ i : Int,e = .returned (.int .i64 i) ∧ S w0 w' R ∧ Place p l i := by
 have H := Lib.hid (And.intro h (And.intro hC hp))
 have hl : l.length ≤ 9223372036854775807 := hC.2.1
 clear h hC hp
 go_enter Tryz.func80,Tryz.ntmps80
 go_wp2
 go_loopw [5,8] (fun _ i wr => ∃ x : Int,0 ≤ x ∧ x ≤ l.length ∧ i = .int .i64 x ∧ Hid (S w0 wr R) ∧ Hid (∀ y ∈ l.take x.toNat,p y = false)) (fun _ i _ => l.length - (intOf i).toNat)
 case atStart => exact ⟨0,Int.le_refl _,by omega,rfl,Lib.hid H.out.1,Lib.hid (by simp)⟩
 case round =>
  obtain ⟨x,hx0,hx1,rfl,HS,HN⟩ := hrel
  by_cases hlt : x < l.length
  ·obtain ⟨ad,cs,rfl,hcl0,hK0,hcell0⟩ := Kd.C_get H.out.2.1 zPt x hx0 hlt
   have hcell : ∀ (j : Nat) (u : Value),cs[j]? = some u → w0.cell? (ad.add (x.toNat * 18 + j)) = some u := hcell0
   have hcl : cs.length = 18 := hcl0
   have hK := hK0
   clear hcell0 hcl0 hK0
   have HR := Lib.hid (getD_mem l zPt x hx0 hlt)
   have hcall := H.out.2.2 wr _ HS.out (List.mem_of_getElem? HR.out) _ hK
   obtain ⟨ts,A17,c17,rfl,hT, -⟩ := kPt_open (id hK)
   obtain ⟨A7,c7,A10,c10,A11,c11,A12,c12,A13,c13,A14,c14,rfl, -⟩ := kTy_open hT
   generalize l.getD x.toNat zPt = r at *
   have d0 : wr.cell? (ad.add (x.toNat * 18)) = some (.string r.n) := pw_cell_below HS.out.below (hcell 0 _ rfl)
   have d1 : wr.cell? ⟨(ad.add (x.toNat * 18)).block,(ad.add (x.toNat * 18)).off + 1,none⟩ = some (.int .i64 r.t.k) := by rw [← add_field _ _ 1 (by omega)]; exact pw_cell_below HS.out.below (hcell 1 _ rfl)
   have d2 : wr.cell? ⟨(ad.add (x.toNat * 18)).block,(ad.add (x.toNat * 18)).off + 2,none⟩ = some (.string r.t.n) := by rw [← add_field _ _ 2 (by omega)]; exact pw_cell_below HS.out.below (hcell 2 _ rfl)
   have d3 : wr.cell? ⟨(ad.add (x.toNat * 18)).block,(ad.add (x.toNat * 18)).off + 3,none⟩ = some (.int .i64 r.t.c.f0) := by rw [← add_field _ _ 3 (by omega)]; exact pw_cell_below HS.out.below (hcell 3 _ rfl)
   have d4 : wr.cell? ⟨(ad.add (x.toNat * 18)).block,(ad.add (x.toNat * 18)).off + 4,none⟩ = some (.int .i64 r.t.c.f1) := by rw [← add_field _ _ 4 (by omega)]; exact pw_cell_below HS.out.below (hcell 4 _ rfl)
   have d5 : wr.cell? ⟨(ad.add (x.toNat * 18)).block,(ad.add (x.toNat * 18)).off + 5,none⟩ = some (.int .i64 r.t.c.f2) := by rw [← add_field _ _ 5 (by omega)]; exact pw_cell_below HS.out.below (hcell 5 _ rfl)
   have d6 : wr.cell? ⟨(ad.add (x.toNat * 18)).block,(ad.add (x.toNat * 18)).off + 6,none⟩ = some (.bool r.t.c.f3) := by rw [← add_field _ _ 6 (by omega)]; exact pw_cell_below HS.out.below (hcell 6 _ rfl)
   have d7 : wr.cell? ⟨(ad.add (x.toNat * 18)).block,(ad.add (x.toNat * 18)).off + 7,none⟩ = some (.bool r.t.c.f4) := by rw [← add_field _ _ 7 (by omega)]; exact pw_cell_below HS.out.below (hcell 7 _ rfl)
   have d8 : wr.cell? ⟨(ad.add (x.toNat * 18)).block,(ad.add (x.toNat * 18)).off + 8,none⟩ = some (.slice A7 r.t.c.f5.length c7) := by rw [← add_field _ _ 8 (by omega)]; exact pw_cell_below HS.out.below (hcell 8 _ rfl)
   have d9 : wr.cell? ⟨(ad.add (x.toNat * 18)).block,(ad.add (x.toNat * 18)).off + 9,none⟩ = some (.bool r.t.e) := by rw [← add_field _ _ 9 (by omega)]; exact pw_cell_below HS.out.below (hcell 9 _ rfl)
   have d10 : wr.cell? ⟨(ad.add (x.toNat * 18)).block,(ad.add (x.toNat * 18)).off + 10,none⟩ = some (.string r.t.fr) := by rw [← add_field _ _ 10 (by omega)]; exact pw_cell_below HS.out.below (hcell 10 _ rfl)
   have d11 : wr.cell? ⟨(ad.add (x.toNat * 18)).block,(ad.add (x.toNat * 18)).off + 11,none⟩ = some (.slice A10 r.t.ns.length c10) := by rw [← add_field _ _ 11 (by omega)]; exact pw_cell_below HS.out.below (hcell 11 _ rfl)
   have d12 : wr.cell? ⟨(ad.add (x.toNat * 18)).block,(ad.add (x.toNat * 18)).off + 12,none⟩ = some (.slice A11 r.t.mo.length c11) := by rw [← add_field _ _ 12 (by omega)]; exact pw_cell_below HS.out.below (hcell 12 _ rfl)
   have d13 : wr.cell? ⟨(ad.add (x.toNat * 18)).block,(ad.add (x.toNat * 18)).off + 13,none⟩ = some (.slice A12 r.t.ps.length c12) := by rw [← add_field _ _ 13 (by omega)]; exact pw_cell_below HS.out.below (hcell 13 _ rfl)
   have d14 : wr.cell? ⟨(ad.add (x.toNat * 18)).block,(ad.add (x.toNat * 18)).off + 14,none⟩ = some (.slice A13 r.t.ad.length c13) := by rw [← add_field _ _ 14 (by omega)]; exact pw_cell_below HS.out.below (hcell 14 _ rfl)
   have d15 : wr.cell? ⟨(ad.add (x.toNat * 18)).block,(ad.add (x.toNat * 18)).off + 15,none⟩ = some (.slice A14 r.t.el.length c14) := by rw [← add_field _ _ 15 (by omega)]; exact pw_cell_below HS.out.below (hcell 15 _ rfl)
   have d16 : wr.cell? ⟨(ad.add (x.toNat * 18)).block,(ad.add (x.toNat * 18)).off + 16,none⟩ = some (.bool r.o) := by rw [← add_field _ _ 16 (by omega)]; exact pw_cell_below HS.out.below (hcell 16 _ rfl)
   have d17 : wr.cell? ⟨(ad.add (x.toNat * 18)).block,(ad.add (x.toNat * 18)).off + 17,none⟩ = some (.slice A17 r.d.length c17) := by rw [← add_field _ _ 17 (by omega)]; exact pw_cell_below HS.out.below (hcell 17 _ rfl)
   try clear hcell
   try clear hK
   try clear hcl
   have p126 := eq_true hx0
   have q126 : (x < (l.length : Int)) = True := eq_true hlt
   cases hq : p r with
   | true =>
    rw [hq] at hcall
    have HQ := Lib.hid hq
    clear hq
    go_wp2_with (go_at_fn g; refine hcall.mono ?_; rintro e w' ⟨rfl,hb'⟩)
    go_ret
    exact ⟨x,rfl,hb',.inl ⟨x.toNat,r,by omega,HR.out,HQ.out,HN.out⟩⟩
   | false =>
    rw [hq] at hcall
    have HQ := Lib.hid hq
    clear hq
    go_wp2_with (go_at_fn g; refine hcall.mono ?_; rintro e w' ⟨rfl,hb'⟩)
    refine ⟨⟨x + 1,by omega,by omega,by go_num,Lib.hid hb',Lib.hid ?_⟩,by simp only [intOf]; omega⟩
    intro y hy
    have e1 : (x + 1).toNat = x.toNat + 1 := by omega
    rw [e1,List.take_add_one,HR.out] at hy
    rcases List.mem_append.1 hy with hy | hy
    ·exact HN.out y hy
    ·simp at hy
     rw [hy]; exact HQ.out
  ·go_wp2
   go_ret
   exact ⟨_,rfl,HS.out,.inr ⟨rfl,by have h := HN.out; rwa [List.take_of_length_le (by omega)] at h⟩⟩
theorem contains_pts (g : Nat) (lb : Array Value) (eg : ∀ args w,(callFunc g args).run Tryz.prog w = .ok (.enter g args) w) (p : Pt Ty → Bool) (A : Option Addr) (c : Nat) (l : List (Pt Ty)) (hC : kPt.C w0 A l.length l) (h : S w0 w R) (hp : Tells kPt w0 R g lb l p) :
  Calls Tryz.prog 64 #[.slice A l.length c,.func (.func g) #[] lb] w fun e w' => e = .returned (.bool (l.any p)) ∧ S w0 w' R := by
 have hi := index_pts g lb eg p A c l hC h hp
 clear h hC hp
 go_enter Tryz.func64,Tryz.ntmps64
 go_wp2_with fail
 refine hi.mono ?_
 rintro e w' ⟨i,rfl,h2,h3⟩
 have H2 := Lib.hid h2
 rcases h3 with ⟨k,r,rfl,hr,hpr, -⟩ | ⟨rfl,hn⟩
 ·have e1 : l.any p = true := List.any_eq_true.2 ⟨r,List.mem_of_getElem? hr,hpr⟩
  go_wp2
  go_ret
  rw [e1]
  exact ⟨rfl,H2.out⟩
 ·have e1 : l.any p = false := List.any_eq_false.2 fun x hx => by rw [hn x hx]; simp
  go_wp2
  go_ret
  rw [e1]
  exact ⟨rfl,H2.out⟩
set_option maxHeartbeats 1600000 in
set_option maxRecDepth 100000 in
theorem index_dfs (g : Nat) (lb : Array Value) (eg : ∀ args w,(callFunc g args).run Tryz.prog w = .ok (.enter g args) w) (p : Df → Bool) (A : Option Addr) (c : Nat) (l : List (Df)) (hC : kDf.C w0 A l.length l) (h : S w0 w R) (hp : Tells kDf w0 R g lb l p) :
  Calls Tryz.prog 57 #[.slice A l.length c,.func (.func g) #[] lb] w fun e w' => ∃ i : Int,e = .returned (.int .i64 i) ∧ S w0 w' R ∧ Place p l i := by
 have H := Lib.hid (And.intro h (And.intro hC hp))
 have hl : l.length ≤ 9223372036854775807 := hC.2.1
 clear h hC hp
 go_enter Tryz.func57,Tryz.ntmps57
 go_wp2
 go_loopw [5,8] (fun _ i wr => ∃ x : Int,0 ≤ x ∧ x ≤ l.length ∧ i = .int .i64 x ∧ Hid (S w0 wr R) ∧ Hid (∀ y ∈ l.take x.toNat,p y = false)) (fun _ i _ => l.length - (intOf i).toNat)
 case atStart => exact ⟨0,Int.le_refl _,by omega,rfl,Lib.hid H.out.1,Lib.hid (by simp)⟩
 case round =>
  obtain ⟨x,hx0,hx1,rfl,HS,HN⟩ := hrel
  by_cases hlt : x < l.length
  ·obtain ⟨ad,cs,rfl,hcl0,hK0,hcell0⟩ := Kd.C_get H.out.2.1 zDf x hx0 hlt
   have hcell : ∀ (j : Nat) (u : Value),cs[j]? = some u → w0.cell? (ad.add (x.toNat * 16 + j)) = some u := hcell0
   have hcl : cs.length = 16 := hcl0
   have hK := hK0
   clear hcell0 hcl0 hK0
   have HR := Lib.hid (getD_mem l zDf x hx0 hlt)
   have hcall := H.out.2.2 wr _ HS.out (List.mem_of_getElem? HR.out) _ hK
   obtain ⟨ts,rfl,hT⟩ := kDf_open (id hK)
   obtain ⟨A7,c7,A10,c10,A11,c11,A12,c12,A13,c13,A14,c14,rfl, -⟩ := kTy_open hT
   generalize l.getD x.toNat zDf = r at *
   have d0 : wr.cell? (ad.add (x.toNat * 16)) = some (.string r.n) := pw_cell_below HS.out.below (hcell 0 _ rfl)
   have d1 : wr.cell? ⟨(ad.add (x.toNat * 16)).block,(ad.add (x.toNat * 16)).off + 1,none⟩ = some (.int .i64 r.t.k) := by rw [← add_field _ _ 1 (by omega)]; exact pw_cell_below HS.out.below (hcell 1 _ rfl)
   have d2 : wr.cell? ⟨(ad.add (x.toNat * 16)).block,(ad.add (x.toNat * 16)).off + 2,none⟩ = some (.string r.t.n) := by rw [← add_field _ _ 2 (by omega)]; exact pw_cell_below HS.out.below (hcell 2 _ rfl)
   have d3 : wr.cell? ⟨(ad.add (x.toNat * 16)).block,(ad.add (x.toNat * 16)).off + 3,none⟩ = some (.int .i64 r.t.c.f0) := by rw [← add_field _ _ 3 (by omega)]; exact pw_cell_below HS.out.below (hcell 3 _ rfl)
   have d4 : wr.cell? ⟨(ad.add (x.toNat * 16)).block,(ad.add (x.toNat * 16)).off + 4,none⟩ = some (.int .i64 r.t.c.f1) := by rw [← add_field _ _ 4 (by omega)]; exact pw_cell_below HS.out.below (hcell 4 _ rfl)
   have d5 : wr.cell? ⟨(ad.add (x.toNat * 16)).block,(ad.add (x.toNat * 16)).off + 5,none⟩ = some (.int .i64 r.t.c.f2) := by rw [← add_field _ _ 5 (by omega)]; exact pw_cell_below HS.out.below (hcell 5 _ rfl)
   have d6 : wr.cell? ⟨(ad.add (x.toNat * 16)).block,(ad.add (x.toNat * 16)).off + 6,none⟩ = some (.bool r.t.c.f3) := by rw [← add_field _ _ 6 (by omega)]; exact pw_cell_below HS.out.below (hcell 6 _ rfl)
   have d7 : wr.cell? ⟨(ad.add (x.toNat * 16)).block,(ad.add (x.toNat * 16)).off + 7,none⟩ = some (.bool r.t.c.f4) := by rw [← add_field _ _ 7 (by omega)]; exact pw_cell_below HS.out.below (hcell 7 _ rfl)
   have d8 : wr.cell? ⟨(ad.add (x.toNat * 16)).block,(ad.add (x.toNat * 16)).off + 8,none⟩ = some (.slice A7 r.t.c.f5.length c7) := by rw [← add_field _ _ 8 (by omega)]; exact pw_cell_below HS.out.below (hcell 8 _ rfl)
   have d9 : wr.cell? ⟨(ad.add (x.toNat * 16)).block,(ad.add (x.toNat * 16)).off + 9,none⟩ = some (.bool r.t.e) := by rw [← add_field _ _ 9 (by omega)]; exact pw_cell_below HS.out.below (hcell 9 _ rfl)
   have d10 : wr.cell? ⟨(ad.add (x.toNat * 16)).block,(ad.add (x.toNat * 16)).off + 10,none⟩ = some (.string r.t.fr) := by rw [← add_field _ _ 10 (by omega)]; exact pw_cell_below HS.out.below (hcell 10 _ rfl)
   have d11 : wr.cell? ⟨(ad.add (x.toNat * 16)).block,(ad.add (x.toNat * 16)).off + 11,none⟩ = some (.slice A10 r.t.ns.length c10) := by rw [← add_field _ _ 11 (by omega)]; exact pw_cell_below HS.out.below (hcell 11 _ rfl)
   have d12 : wr.cell? ⟨(ad.add (x.toNat * 16)).block,(ad.add (x.toNat * 16)).off + 12,none⟩ = some (.slice A11 r.t.mo.length c11) := by rw [← add_field _ _ 12 (by omega)]; exact pw_cell_below HS.out.below (hcell 12 _ rfl)
   have d13 : wr.cell? ⟨(ad.add (x.toNat * 16)).block,(ad.add (x.toNat * 16)).off + 13,none⟩ = some (.slice A12 r.t.ps.length c12) := by rw [← add_field _ _ 13 (by omega)]; exact pw_cell_below HS.out.below (hcell 13 _ rfl)
   have d14 : wr.cell? ⟨(ad.add (x.toNat * 16)).block,(ad.add (x.toNat * 16)).off + 14,none⟩ = some (.slice A13 r.t.ad.length c13) := by rw [← add_field _ _ 14 (by omega)]; exact pw_cell_below HS.out.below (hcell 14 _ rfl)
   have d15 : wr.cell? ⟨(ad.add (x.toNat * 16)).block,(ad.add (x.toNat * 16)).off + 15,none⟩ = some (.slice A14 r.t.el.length c14) := by rw [← add_field _ _ 15 (by omega)]; exact pw_cell_below HS.out.below (hcell 15 _ rfl)
   try clear hcell
   try clear hK
   try clear hcl
   have p126 := eq_true hx0
   have q126 : (x < (l.length : Int)) = True := eq_true hlt
   cases hq : p r with
   | true =>
    rw [hq] at hcall
    have HQ := Lib.hid hq
    clear hq
    go_wp2_with (go_at_fn g; refine hcall.mono ?_; rintro e w' ⟨rfl,hb'⟩)
    go_ret
    exact ⟨x,rfl,hb',.inl ⟨x.toNat,r,by omega,HR.out,HQ.out,HN.out⟩⟩
   | false =>
    rw [hq] at hcall
    have HQ := Lib.hid hq
    clear hq
    go_wp2_with (go_at_fn g; refine hcall.mono ?_; rintro e w' ⟨rfl,hb'⟩)
    refine ⟨⟨x + 1,by omega,by omega,by go_num,Lib.hid hb',Lib.hid ?_⟩,by simp only [intOf]; omega⟩
    intro y hy
    have e1 : (x + 1).toNat = x.toNat + 1 := by omega
    rw [e1,List.take_add_one,HR.out] at hy
    rcases List.mem_append.1 hy with hy | hy
    ·exact HN.out y hy
    ·simp at hy
     rw [hy]; exact HQ.out
  ·go_wp2
   go_ret
   exact ⟨_,rfl,HS.out,.inr ⟨rfl,by have h := HN.out; rwa [List.take_of_length_le (by omega)] at h⟩⟩
theorem contains_dfs (g : Nat) (lb : Array Value) (eg : ∀ args w,(callFunc g args).run Tryz.prog w = .ok (.enter g args) w) (p : Df → Bool) (A : Option Addr) (c : Nat) (l : List (Df)) (hC : kDf.C w0 A l.length l) (h : S w0 w R) (hp : Tells kDf w0 R g lb l p) :
  Calls Tryz.prog 31 #[.slice A l.length c,.func (.func g) #[] lb] w fun e w' => e = .returned (.bool (l.any p)) ∧ S w0 w' R := by
 have hi := index_dfs g lb eg p A c l hC h hp
 clear h hC hp
 go_enter Tryz.func31,Tryz.ntmps31
 go_wp2_with fail
 refine hi.mono ?_
 rintro e w' ⟨i,rfl,h2,h3⟩
 have H2 := Lib.hid h2
 rcases h3 with ⟨k,r,rfl,hr,hpr, -⟩ | ⟨rfl,hn⟩
 ·have e1 : l.any p = true := List.any_eq_true.2 ⟨r,List.mem_of_getElem? hr,hpr⟩
  go_wp2
  go_ret
  rw [e1]
  exact ⟨rfl,H2.out⟩
 ·have e1 : l.any p = false := List.any_eq_false.2 fun x hx => by rw [hn x hx]; simp
  go_wp2
  go_ret
  rw [e1]
  exact ⟨rfl,H2.out⟩
set_option maxHeartbeats 1600000 in
set_option maxRecDepth 100000 in
theorem index_mds (g : Nat) (lb : Array Value) (eg : ∀ args w,(callFunc g args).run Tryz.prog w = .ok (.enter g args) w) (p : Md → Bool) (A : Option Addr) (c : Nat) (l : List (Md)) (hC : kMd.C w0 A l.length l) (h : S w0 w R) (hp : Tells kMd w0 R g lb l p) :
  Calls Tryz.prog 27 #[.slice A l.length c,.func (.func g) #[] lb] w fun e w' => ∃ i : Int,e = .returned (.int .i64 i) ∧ S w0 w' R ∧ Place p l i := by
 have H := Lib.hid (And.intro h (And.intro hC hp))
 have hl : l.length ≤ 9223372036854775807 := hC.2.1
 clear h hC hp
 go_enter Tryz.func27,Tryz.ntmps27
 go_wp2
 go_loopw [5,8] (fun _ i wr => ∃ x : Int,0 ≤ x ∧ x ≤ l.length ∧ i = .int .i64 x ∧ Hid (S w0 wr R) ∧ Hid (∀ y ∈ l.take x.toNat,p y = false)) (fun _ i _ => l.length - (intOf i).toNat)
 case atStart => exact ⟨0,Int.le_refl _,by omega,rfl,Lib.hid H.out.1,Lib.hid (by simp)⟩
 case round =>
  obtain ⟨x,hx0,hx1,rfl,HS,HN⟩ := hrel
  by_cases hlt : x < l.length
  ·obtain ⟨ad,cs,rfl,hcl0,hK0,hcell0⟩ := Kd.C_get H.out.2.1 zMd x hx0 hlt
   have hcell : ∀ (j : Nat) (u : Value),cs[j]? = some u → w0.cell? (ad.add (x.toNat * 4 + j)) = some u := hcell0
   have hcl : cs.length = 4 := hcl0
   have hK := hK0
   clear hcell0 hcl0 hK0
   have HR := Lib.hid (getD_mem l zMd x hx0 hlt)
   have hcall := H.out.2.2 wr _ HS.out (List.mem_of_getElem? HR.out) _ hK
   obtain ⟨A2,c2,A3,c3,rfl, -⟩ := kMd_open (id hK)
   generalize l.getD x.toNat zMd = r at *
   have d0 : wr.cell? (ad.add (x.toNat * 4)) = some (.string r.n) := pw_cell_below HS.out.below (hcell 0 _ rfl)
   have d1 : wr.cell? ⟨(ad.add (x.toNat * 4)).block,(ad.add (x.toNat * 4)).off + 1,none⟩ = some (.bool r.au) := by rw [← add_field _ _ 1 (by omega)]; exact pw_cell_below HS.out.below (hcell 1 _ rfl)
   have d2 : wr.cell? ⟨(ad.add (x.toNat * 4)).block,(ad.add (x.toNat * 4)).off + 2,none⟩ = some (.slice A2 r.im.length c2) := by rw [← add_field _ _ 2 (by omega)]; exact pw_cell_below HS.out.below (hcell 2 _ rfl)
   have d3 : wr.cell? ⟨(ad.add (x.toNat * 4)).block,(ad.add (x.toNat * 4)).off + 3,none⟩ = some (.slice A3 r.df.length c3) := by rw [← add_field _ _ 3 (by omega)]; exact pw_cell_below HS.out.below (hcell 3 _ rfl)
   try clear hcell
   try clear hK
   try clear hcl
   have p126 := eq_true hx0
   have q126 : (x < (l.length : Int)) = True := eq_true hlt
   cases hq : p r with
   | true =>
    rw [hq] at hcall
    have HQ := Lib.hid hq
    clear hq
    go_wp2_with (go_at_fn g; refine hcall.mono ?_; rintro e w' ⟨rfl,hb'⟩)
    go_ret
    exact ⟨x,rfl,hb',.inl ⟨x.toNat,r,by omega,HR.out,HQ.out,HN.out⟩⟩
   | false =>
    rw [hq] at hcall
    have HQ := Lib.hid hq
    clear hq
    go_wp2_with (go_at_fn g; refine hcall.mono ?_; rintro e w' ⟨rfl,hb'⟩)
    refine ⟨⟨x + 1,by omega,by omega,by go_num,Lib.hid hb',Lib.hid ?_⟩,by simp only [intOf]; omega⟩
    intro y hy
    have e1 : (x + 1).toNat = x.toNat + 1 := by omega
    rw [e1,List.take_add_one,HR.out] at hy
    rcases List.mem_append.1 hy with hy | hy
    ·exact HN.out y hy
    ·simp at hy
     rw [hy]; exact HQ.out
  ·go_wp2
   go_ret
   exact ⟨_,rfl,HS.out,.inr ⟨rfl,by have h := HN.out; rwa [List.take_of_length_le (by omega)] at h⟩⟩
theorem contains_mds (g : Nat) (lb : Array Value) (eg : ∀ args w,(callFunc g args).run Tryz.prog w = .ok (.enter g args) w) (p : Md → Bool) (A : Option Addr) (c : Nat) (l : List (Md)) (hC : kMd.C w0 A l.length l) (h : S w0 w R) (hp : Tells kMd w0 R g lb l p) :
  Calls Tryz.prog 11 #[.slice A l.length c,.func (.func g) #[] lb] w fun e w' => e = .returned (.bool (l.any p)) ∧ S w0 w' R := by
 have hi := index_mds g lb eg p A c l hC h hp
 clear h hC hp
 go_enter Tryz.func11,Tryz.ntmps11
 go_wp2_with fail
 refine hi.mono ?_
 rintro e w' ⟨i,rfl,h2,h3⟩
 have H2 := Lib.hid h2
 rcases h3 with ⟨k,r,rfl,hr,hpr, -⟩ | ⟨rfl,hn⟩
 ·have e1 : l.any p = true := List.any_eq_true.2 ⟨r,List.mem_of_getElem? hr,hpr⟩
  go_wp2
  go_ret
  rw [e1]
  exact ⟨rfl,H2.out⟩
 ·have e1 : l.any p = false := List.any_eq_false.2 fun x hx => by rw [hn x hx]; simp
  go_wp2
  go_ret
  rw [e1]
  exact ⟨rfl,H2.out⟩
set_option maxHeartbeats 1600000 in
set_option maxRecDepth 100000 in
theorem index_ens (g : Nat) (lb : Array Value) (eg : ∀ args w,(callFunc g args).run Tryz.prog w = .ok (.enter g args) w) (p : En → Bool) (A : Option Addr) (c : Nat) (l : List (En)) (hC : kEn.C w0 A l.length l) (h : S w0 w R) (hp : Tells kEn w0 R g lb l p) :
  Calls Tryz.prog 24 #[.slice A l.length c,.func (.func g) #[] lb] w fun e w' => ∃ i : Int,e = .returned (.int .i64 i) ∧ S w0 w' R ∧ Place p l i := by
 have H := Lib.hid (And.intro h (And.intro hC hp))
 have hl : l.length ≤ 9223372036854775807 := hC.2.1
 clear h hC hp
 go_enter Tryz.func24,Tryz.ntmps24
 go_wp2
 go_loopw [5,8] (fun _ i wr => ∃ x : Int,0 ≤ x ∧ x ≤ l.length ∧ i = .int .i64 x ∧ Hid (S w0 wr R) ∧ Hid (∀ y ∈ l.take x.toNat,p y = false)) (fun _ i _ => l.length - (intOf i).toNat)
 case atStart => exact ⟨0,Int.le_refl _,by omega,rfl,Lib.hid H.out.1,Lib.hid (by simp)⟩
 case round =>
  obtain ⟨x,hx0,hx1,rfl,HS,HN⟩ := hrel
  by_cases hlt : x < l.length
  ·obtain ⟨ad,cs,rfl,hcl0,hK0,hcell0⟩ := Kd.C_get H.out.2.1 zEn x hx0 hlt
   have hcell : ∀ (j : Nat) (u : Value),cs[j]? = some u → w0.cell? (ad.add (x.toNat * 18 + j)) = some u := hcell0
   have hcl : cs.length = 18 := hcl0
   have hK := hK0
   clear hcell0 hcl0 hK0
   have HR := Lib.hid (getD_mem l zEn x hx0 hlt)
   have hcall := H.out.2.2 wr _ HS.out (List.mem_of_getElem? HR.out) _ hK
   obtain ⟨ts,rfl,hT⟩ := kEn_open (id hK)
   obtain ⟨A7,c7,A10,c10,A11,c11,A12,c12,A13,c13,A14,c14,rfl, -⟩ := kTy_open hT
   generalize l.getD x.toNat zEn = r at *
   have d0 : wr.cell? (ad.add (x.toNat * 18)) = some (.string r.m) := pw_cell_below HS.out.below (hcell 0 _ rfl)
   have d1 : wr.cell? ⟨(ad.add (x.toNat * 18)).block,(ad.add (x.toNat * 18)).off + 1,none⟩ = some (.string r.n) := by rw [← add_field _ _ 1 (by omega)]; exact pw_cell_below HS.out.below (hcell 1 _ rfl)
   have d2 : wr.cell? ⟨(ad.add (x.toNat * 18)).block,(ad.add (x.toNat * 18)).off + 2,none⟩ = some (.bool r.au) := by rw [← add_field _ _ 2 (by omega)]; exact pw_cell_below HS.out.below (hcell 2 _ rfl)
   have d3 : wr.cell? ⟨(ad.add (x.toNat * 18)).block,(ad.add (x.toNat * 18)).off + 3,none⟩ = some (.int .i64 r.t.k) := by rw [← add_field _ _ 3 (by omega)]; exact pw_cell_below HS.out.below (hcell 3 _ rfl)
   have d4 : wr.cell? ⟨(ad.add (x.toNat * 18)).block,(ad.add (x.toNat * 18)).off + 4,none⟩ = some (.string r.t.n) := by rw [← add_field _ _ 4 (by omega)]; exact pw_cell_below HS.out.below (hcell 4 _ rfl)
   have d5 : wr.cell? ⟨(ad.add (x.toNat * 18)).block,(ad.add (x.toNat * 18)).off + 5,none⟩ = some (.int .i64 r.t.c.f0) := by rw [← add_field _ _ 5 (by omega)]; exact pw_cell_below HS.out.below (hcell 5 _ rfl)
   have d6 : wr.cell? ⟨(ad.add (x.toNat * 18)).block,(ad.add (x.toNat * 18)).off + 6,none⟩ = some (.int .i64 r.t.c.f1) := by rw [← add_field _ _ 6 (by omega)]; exact pw_cell_below HS.out.below (hcell 6 _ rfl)
   have d7 : wr.cell? ⟨(ad.add (x.toNat * 18)).block,(ad.add (x.toNat * 18)).off + 7,none⟩ = some (.int .i64 r.t.c.f2) := by rw [← add_field _ _ 7 (by omega)]; exact pw_cell_below HS.out.below (hcell 7 _ rfl)
   have d8 : wr.cell? ⟨(ad.add (x.toNat * 18)).block,(ad.add (x.toNat * 18)).off + 8,none⟩ = some (.bool r.t.c.f3) := by rw [← add_field _ _ 8 (by omega)]; exact pw_cell_below HS.out.below (hcell 8 _ rfl)
   have d9 : wr.cell? ⟨(ad.add (x.toNat * 18)).block,(ad.add (x.toNat * 18)).off + 9,none⟩ = some (.bool r.t.c.f4) := by rw [← add_field _ _ 9 (by omega)]; exact pw_cell_below HS.out.below (hcell 9 _ rfl)
   have d10 : wr.cell? ⟨(ad.add (x.toNat * 18)).block,(ad.add (x.toNat * 18)).off + 10,none⟩ = some (.slice A7 r.t.c.f5.length c7) := by rw [← add_field _ _ 10 (by omega)]; exact pw_cell_below HS.out.below (hcell 10 _ rfl)
   have d11 : wr.cell? ⟨(ad.add (x.toNat * 18)).block,(ad.add (x.toNat * 18)).off + 11,none⟩ = some (.bool r.t.e) := by rw [← add_field _ _ 11 (by omega)]; exact pw_cell_below HS.out.below (hcell 11 _ rfl)
   have d12 : wr.cell? ⟨(ad.add (x.toNat * 18)).block,(ad.add (x.toNat * 18)).off + 12,none⟩ = some (.string r.t.fr) := by rw [← add_field _ _ 12 (by omega)]; exact pw_cell_below HS.out.below (hcell 12 _ rfl)
   have d13 : wr.cell? ⟨(ad.add (x.toNat * 18)).block,(ad.add (x.toNat * 18)).off + 13,none⟩ = some (.slice A10 r.t.ns.length c10) := by rw [← add_field _ _ 13 (by omega)]; exact pw_cell_below HS.out.below (hcell 13 _ rfl)
   have d14 : wr.cell? ⟨(ad.add (x.toNat * 18)).block,(ad.add (x.toNat * 18)).off + 14,none⟩ = some (.slice A11 r.t.mo.length c11) := by rw [← add_field _ _ 14 (by omega)]; exact pw_cell_below HS.out.below (hcell 14 _ rfl)
   have d15 : wr.cell? ⟨(ad.add (x.toNat * 18)).block,(ad.add (x.toNat * 18)).off + 15,none⟩ = some (.slice A12 r.t.ps.length c12) := by rw [← add_field _ _ 15 (by omega)]; exact pw_cell_below HS.out.below (hcell 15 _ rfl)
   have d16 : wr.cell? ⟨(ad.add (x.toNat * 18)).block,(ad.add (x.toNat * 18)).off + 16,none⟩ = some (.slice A13 r.t.ad.length c13) := by rw [← add_field _ _ 16 (by omega)]; exact pw_cell_below HS.out.below (hcell 16 _ rfl)
   have d17 : wr.cell? ⟨(ad.add (x.toNat * 18)).block,(ad.add (x.toNat * 18)).off + 17,none⟩ = some (.slice A14 r.t.el.length c14) := by rw [← add_field _ _ 17 (by omega)]; exact pw_cell_below HS.out.below (hcell 17 _ rfl)
   try clear hcell
   try clear hK
   try clear hcl
   have p126 := eq_true hx0
   have q126 : (x < (l.length : Int)) = True := eq_true hlt
   cases hq : p r with
   | true =>
    rw [hq] at hcall
    have HQ := Lib.hid hq
    clear hq
    go_wp2_with (go_at_fn g; refine hcall.mono ?_; rintro e w' ⟨rfl,hb'⟩)
    go_ret
    exact ⟨x,rfl,hb',.inl ⟨x.toNat,r,by omega,HR.out,HQ.out,HN.out⟩⟩
   | false =>
    rw [hq] at hcall
    have HQ := Lib.hid hq
    clear hq
    go_wp2_with (go_at_fn g; refine hcall.mono ?_; rintro e w' ⟨rfl,hb'⟩)
    refine ⟨⟨x + 1,by omega,by omega,by go_num,Lib.hid hb',Lib.hid ?_⟩,by simp only [intOf]; omega⟩
    intro y hy
    have e1 : (x + 1).toNat = x.toNat + 1 := by omega
    rw [e1,List.take_add_one,HR.out] at hy
    rcases List.mem_append.1 hy with hy | hy
    ·exact HN.out y hy
    ·simp at hy
     rw [hy]; exact HQ.out
  ·go_wp2
   go_ret
   exact ⟨_,rfl,HS.out,.inr ⟨rfl,by have h := HN.out; rwa [List.take_of_length_le (by omega)] at h⟩⟩
end Go.Proofs.YtbjddomocggjmaaGreat.Sc
end
section
namespace Go.Proofs.YtbjddomocggjmaaGreat.Sc
open Go.RowKit Go.ChangeShapes Go.WideShapes Go.Proofs.YtbjddomocggjmaaGreat.Sep
open Go.Proofs.YtbjddomocggjmaaGreatW.PrintWords
variable {B : Nat} {w0 w w1 : World} {R : HP}
def Vw (w0 : World) (B : Nat) (p : World → Prop) : HP where
 on w F := ∀ wv,Below B w0 wv → (∀ b,F b → wv.heap[b]? = w.heap[b]?) → p wv
 loc := fun h hw wv hb hv => h wv hb fun b hF => (hv b hF).trans (hw b hF)
 up := fun h hG wv hb hv => h wv hb fun b hF => hv b (hG b hF)
theorem Vw.get {p : World → Prop} (h : St B w0 w (Vw w0 B p • R)) : p w := by
 obtain ⟨hb,_,F,_,F1,F2,h1,_,_,ha,_⟩ := h
 exact ha w hb fun _ _ => rfl
theorem Vw.base {p : World → Prop} (h : St B w0 w R) (hp : ∀ wv,Below B w0 wv → p wv) : St B w0 w (Vw w0 B p • R) :=
 (h.pad.swap).mapFirst fun _ _ _ wv hb _ => hp wv hb
theorem Vw.map {p q : World → Prop} (h : St B w0 w (Vw w0 B p • R)) (hpq : ∀ wv,Below B w0 wv → p wv → q wv) : St B w0 w (Vw w0 B q • R) :=
 h.mapFirst fun _ _ hv wv hb hF => hpq wv hb (hv wv hb hF)
theorem Vw.join {p q : World → Prop} (h : St B w0 w (Vw w0 B p • (Vw w0 B q • R))) : St B w0 w (Vw w0 B (fun W => p W ∧ q W) • R) := by
 refine (h.assoc').mapFirst fun w F hh wv hb hv => ?_
 obtain ⟨F1,F2,h1,h2, -,hp,hq⟩ := hh
 exact ⟨hp wv hb fun b hF => hv b (h1 b hF),hq wv hb fun b hF => hv b (h2 b hF)⟩
theorem Vw.row {α : Type} {d : Kd α} {e : TypeId} {v : Value} {n : Nat} {l : List α} {xs : List Value} (hz : 0 < d.sz) (hn : n = l.length) (h : St B w0 w (RowV e d.sz v n xs • (Vw w0 B (fun W => Reps (d.K W) d.sz l xs) • R))) :
  St B w0 w (Vw w0 B (fun W => ∃ A c,v = .slice A l.length c ∧ l.length ≤ c ∧ c ≤ maxLen ∧ d.C W A l.length l) • R) := by
 subst hn
 refine (h.assoc').mapFirst fun w F hh wv hb hv => ?_
 obtain ⟨F1,F2,h1,h2, -,hr,hp⟩ := hh
 have hR := hp wv hb fun b hF => hv b (h2 b hF)
 have hrow : RowOn e d.sz v l.length xs wv F1 := (RowV e d.sz v l.length xs).loc hr fun b hF => hv b (h1 b hF)
 obtain ⟨q1,A,c,rfl,q2,q3,q4⟩ := hrow.reads
 refine ⟨A,c,rfl,q2,q3,rfl,by simp only [maxLen] at q3; omega,fun h0 => ?_⟩
 have hx0 : 0 < xs.length := by rw [q1]; exact Nat.mul_pos h0 hz
 obtain ⟨ad,rfl, -⟩ := q4 0 _ (List.getElem?_eq_getElem hx0)
 refine ⟨ad,rfl,fun j p hp => ⟨_, ?_,hR.2 j p hp,fun i u hu => ?_⟩⟩
 ·have hj := (List.getElem?_eq_some_iff.1 hp).1
  have : j * d.sz + d.sz ≤ xs.length := by rw [q1, ← Nat.succ_mul]; exact Nat.mul_le_mul_right _ hj
  rw [List.length_take,List.length_drop]
  omega
 ·rw [List.getElem?_take] at hu
  split at hu
  ·rw [List.getElem?_drop] at hu
   obtain ⟨ad',e,h5⟩ := q4 _ u hu
   cases e
   exact h5
  ·cases hu
theorem c_rows {α : Type} {d : Kd α} {A : Option Addr} {l : List α} (h : d.C w A l.length l) : ∃ xs,Reps (d.K w) d.sz l xs ∧ xs.length = l.length * d.sz ∧ ∀ j u,xs[j]? = some u → ∃ ad,A = some ad ∧ w.cell? (ad.add j) = some u := by
 cases l with
 | nil => exact ⟨[],Reps.none _ _,by simp,fun j u hu => by simp at hu⟩
 | cons a l =>
  obtain ⟨ad,rfl, -⟩ := h.2.2 (by simp)
  obtain ⟨xs,h1,h2⟩ := ReadsRow.inner_ h
  exact ⟨xs,h1,h1.1,fun j u hu => ⟨ad,rfl,h2 j u hu⟩⟩
theorem reps_one {α : Type} {d : Kd α} {l : List α} {xs : List Value} (h : Reps (d.K w) d.sz l xs) : ∀ u ∈ xs,u.oneCell' = true := by
 intro u hu
 obtain ⟨j,hj⟩ := List.getElem?_of_mem hu
 have hjl := (List.getElem?_eq_some_iff.1 hj).1
 rw [h.1] at hjl
 have hz : 0 < d.sz := Nat.pos_of_ne_zero fun h0 => by rw [h0,Nat.mul_zero] at hjl; omega
 have hq : j / d.sz < l.length := Nat.div_lt_of_lt_mul (by rwa [Nat.mul_comm] at hjl)
 have hk := h.2 (j / d.sz) _ (List.getElem?_eq_getElem hq)
 refine d.K_one hk u (List.mem_of_getElem? (i := j % d.sz) ?_)
 rw [List.getElem?_take,if_pos (Nat.mod_lt _ hz),List.getElem?_drop,Nat.mul_comm,Nat.div_add_mod]
 exact hj
structure Held (p : Prop) : Prop where
 out : p
theorem info_parts {P : Program} {t : TypeId} {z : Value} {n b : Nat} (h : (P.info? t).map (fun i => (i.zero,i.size,i.bytes)) = some (some z,n,b)) : ∃ i,P.info? t = some i ∧ i.zero = some z ∧ i.size = n ∧ i.bytes = b := by
 rw [Option.map_eq_some_iff] at h
 obtain ⟨i,h1,h2⟩ := h
 simp only [Prod.mk.injEq] at h2
 exact ⟨i,h1,h2.1,h2.2.1,h2.2.2⟩
section
variable {P : Program} {e : TypeId} {size n : Nat} {v : Value} {xs : List Value}
theorem run_append2 (t ty : TypeId) (i : TypeInfo) (z : Value) (bytes : Nat) (ht : P.underlying t = some (.slice e)) (hi : P.info? e = some i) (hz : i.zero = some z)
  (hsize : i.size = size) (hby : i.bytes = bytes) (hzs : z.cells.size = size) (hsz : 0 < size)
  (h : St B w0 w (RowV e size v n xs • R)) {SA : Option Addr} {m c : Nat} {news : List Value} (hl0 : news.length = m * size) (hcell : ∀ j u,news[j]? = some u → ∃ ad,SA = some ad ∧ w.cell? (ad.add j) = some u) (h1 : ∀ u ∈ news,u.oneCell' = true)
  (h63 : n + m ≤ maxLen) (hbytes : (n + m) * bytes ≤ 140737488355328) :
  ∃ v' w',(Builtin.append_ #[t,t] ty #[v,.slice SA m c]).run P w = .ok v' w' ∧ St B w0 w' (RowV e size v' (n + m) (xs ++ news) • R) := by
 subst hsize
 subst hby
 have hl := hl0
 have hxl := h.rowLen
 have h63' : n + m ≤ 9223372036854775807 := by simp only [maxLen] at h63; omega
 by_cases hm : m = 0
 ·subst hm
  have hnews : news = [] := List.eq_nil_of_length_eq_zero (by omega)
  subst hnews
  refine ⟨v,w, ?_,by simpa using h⟩
  rcases h.rowForm with ⟨rfl,rfl,rfl⟩ | ⟨g,cap,cur,lo,hi',rfl,hf,hnc,hc,hs,hx,hb⟩
  ·exact run_append_empty w t ty e i ht hi none (by simp) 0 0 (Nat.le_refl _) SA c
  ·exact run_append_empty w t ty e i ht hi _ (by rintro a ⟨⟩; exact ⟨g,rfl⟩) n cap hnc SA c
 ·have hpos : 0 < news.length := by rw [hl]; exact Nat.mul_pos (by omega) hsz
  obtain ⟨ad,rfl, -⟩ := hcell 0 news[0] (by simp [List.getElem?_eq_getElem hpos])
  have hnews : ∀ j u,news[j]? = some u → w.cell? (ad.add j) = some u := fun j u hu => by
   obtain ⟨ad',e',h'⟩ := hcell j u hu
   cases e'
   exact h'
  have grown : ∀ (old : Nat),old < n + m → St B w0 w R →
    St B w0 (w.drew.alloc (.cells (xs.toArray ++ news.toArray ++ Builtin.zeroCells z.cells (grownCap w (n + m) old e - (n + m))) e))
     (RowV e i.size (.slice (some ⟨w.heap.size,0,none⟩) (n + m) (grownCap w (n + m) old e)) (n + m) (xs ++ news) • R) := by
   intro old ho hR
   have hge := grownCap_ge w (n + m) old e
   have hcm : grownCap w (n + m) old e ≤ maxLen := grownCap_le_maxLen w (n + m) old e h63
   have h2 := hR.drew.alloc (.cells (xs.toArray ++ news.toArray ++ Builtin.zeroCells z.cells (grownCap w (n + m) old e - (n + m))) e)
   refine St.blkRow h2 hge hcm ?_ (.inr (Nat.le_refl _)) ?_
   ·simp only [Array.size_append,List.size_toArray,size_zeroCells,hzs,hxl,hl, ← Nat.add_mul]
    congr 1
    omega
   ·simp only [Array.toList_append,List.append_assoc]
    rw [← List.append_assoc,List.take_append_of_le_length (by rw [List.length_append,hxl,hl,Nat.add_mul]; exact Nat.le_refl _)]
    exact List.take_of_length_le (by rw [List.length_append,hxl,hl,Nat.add_mul]; exact Nat.le_refl _)
  rcases h.rowForm with ⟨rfl,rfl,rfl⟩ | ⟨g,cap,cur,lo,hi',rfl,hf,hnc,hc,hs,hx,hb⟩
  ·have hr := run_append_nil (P := P) w t ty e i z ht hi hz ad m c news hl hnews (by omega) (by omega) (by have hb := hbytes; simp only [Nat.zero_add] at hb; omega)
   have hg := grown 0 (by omega) h.drop
   simp only [Nat.zero_add,List.nil_append,Array.empty_append] at hg ⊢
   exact ⟨_,_,hr,hg⟩
  ·by_cases hroom : n + m ≤ cap
   ·have hfit : n * i.size + news.length ≤ cur.size := by rw [hl,hs, ← Nat.add_mul]; exact Nat.mul_le_mul_right _ hroom
    have hr := run_append_room_off (P := P) w t ty e i ht hi g n cap lo hi' cur hb.block hf ad m c news hl hnews h1 hroom hfit
    refine ⟨_,_,hr, ?_⟩
    have hst : St B w0 (w.setRow g (cur.toList.take (n * i.size) ++ news ++ cur.toList.drop (n * i.size + news.length)).toArray)
      (Blk g (.cells (cur.toList.take (n * i.size) ++ news ++ cur.toList.drop (n * i.size + news.length)).toArray e (lo,hi')) • R) :=
     hb.step (by simp [World.setRow]) rfl rfl rfl fun F hF ⟨hf,hb'⟩ => ⟨fun k hk hn => setRow_other w g k _ (fun e => hn (by subst e; exact hf)),F,fun b hb => .inl hb,hf,setRow_heap w g cur _ e _ hb'⟩
    have hsz2 : (cur.toList.take (n * i.size) ++ news ++ cur.toList.drop (n * i.size + news.length)).toArray.size = cur.size := by
     simp only [List.size_toArray,List.length_append,List.length_take,List.length_drop,Array.length_toList]
     omega
    refine St.blkRow hst hroom hc (by rw [hsz2,hs]) (by rw [hsz2]; exact hf) ?_
    rw [hx,Nat.add_mul, ← hl, ← hxl, ← List.length_append]
    exact List.take_left
   ·have holds : ∀ j u,xs[j]? = some u → w.cell? ((⟨g,0,none⟩ : Addr).add j) = some u := fun j u hu => by
     obtain ⟨_,SA,c,e1,_,_,hh⟩ := h.reads
     cases e1
     obtain ⟨ad',e2,h'⟩ := hh j u hu
     cases e2
     exact h'
    have hr := run_append_grow (P := P) w t ty e i z ht hi hz ⟨g,0,none⟩ n cap xs hxl holds ad m c news hl hnews (by omega) (by omega) (growslice_fits (by omega) hbytes)
    exact ⟨_,_,hr,grown cap (by omega) h.drop⟩
end
theorem wp_append {P : Program} {o : Oper} {a : Act} {K : Act → World → Prop} {Q : Exit → Act → World → Prop} (s x : Operand) {t e : TypeId} (ht : P.underlying t = some (.slice e)) {z : Value} {size bytes : Nat}
  (hi : (P.info? e).map (fun i => (i.zero,i.size,i.bytes)) = some (some z,size,bytes)) (hzs : z.cells.size = size) (hsz : 0 < size)
  (ho : o.op = .call { callee := .builtin .append,args := #[s,x],argTypes := #[t,t] }) (v : Value) (n : Nat) (xs : List Value)
  (hs : a.eval s = v) (h : St B w0 w (RowV e size v n xs • R)) {A : Option Addr} {m c : Nat} {news : List Value} (hx : a.eval x = .slice A m c) (hl : news.length = m * size) (hr : ∀ j u,news[j]? = some u → ∃ ad,A = some ad ∧ w.cell? (ad.add j) = some u) (h1 : ∀ u ∈ news,u.oneCell' = true) (h63 : n + m ≤ maxLen) (hb : (n + m) * bytes ≤ 140737488355328)
  (hK : ∀ v' w',St B w0 w' (RowV e size v' (n + m) (xs ++ news) • R) → K (a.put o.dst v') w') : Oper.wp P o a w K Q := by
 obtain ⟨i0,hi0,hz0,hz1,hz2⟩ := info_parts hi
 obtain ⟨v',w',hrun,hst⟩ := run_append2 (P := P) t o.type i0 z bytes ht hi0 hz0 hz1 hz2 hzs hsz h (SA := A) (m := m) (c := c) (news := news) hl hr h1 h63 hb
 unfold Oper.wp execOp
 simp only [ho,resolve,invoke,builtin,Sem.run_bind,Sem.run_pure,Result.andThen_ok,List.map_toArray,List.map_cons,List.map_nil,hs,hx,hrun]
 exact hK v' w' hst
theorem wpList_append {P : Program} {ops : Array Oper} {rest : List Oper} {o : Oper} {a : Act} {Q : Exit → Act → World → Prop} (hw : Region.wanted o (yielded ops a.tmps) = true) (s x : Operand) {t e : TypeId} (ht : P.underlying t = some (.slice e)) {z : Value} {size bytes : Nat}
  (hi : (P.info? e).map (fun i => (i.zero,i.size,i.bytes)) = some (some z,size,bytes)) (hzs : z.cells.size = size) (hsz : 0 < size)
  (ho : o.op = .call { callee := .builtin .append,args := #[s,x],argTypes := #[t,t] }) (v : Value) (n : Nat) (xs : List Value)
  (hs : a.eval s = v) (h : St B w0 w (RowV e size v n xs • R)) {A : Option Addr} {m c : Nat} {news : List Value} (hx : a.eval x = .slice A m c) (hl : news.length = m * size) (hr : ∀ j u,news[j]? = some u → ∃ ad,A = some ad ∧ w.cell? (ad.add j) = some u) (h1 : ∀ u ∈ news,u.oneCell' = true) (h63 : n + m ≤ maxLen) (hb : (n + m) * bytes ≤ 140737488355328)
  (hK : ∀ v' w',St B w0 w' (RowV e size v' (n + m) (xs ++ news) • R) → wpList P ops Q rest (a.put o.dst v') w') : wpList P ops Q (o :: rest) a w := by
 unfold wpList
 rw [if_pos hw]
 exact .inl (wp_append s x ht hi hzs hsz ho v n xs hs h hx hl hr h1 h63 hb hK)
end Go.Proofs.YtbjddomocggjmaaGreat.Sc
end
