/- The walks of slices.IndexFunc, ContainsFunc at the types of schemas. -/
import Derived.Shelf.Abstract
import Derived.Deep.MidRow
import Derived.Test.YtbjddomocggjmaaKE
namespace Go.Proofs.Ytbjddomocggjmaa.Sc
open Go.RowKit Go.ChangeShapes Go.WideShapes Go.Proofs.Ytbjddomocggjmaa.Sep
open Go.Proofs.YtbjddomocggjmaaW.PrintWords
variable {B : Nat} {w0 w w1 : World} {R : HP}
abbrev S (w0 w : World) (R : HP) : Prop := St w0.heap.size w0 w R
/-- A closure that tells of an element, and leaves what is there. -/
def Tells {α : Type} (d : Kd α) (w0 : World) (R : HP) (g : Nat) (lb : Array Value) (l : List α) (p : α → Bool) : Prop :=
  ∀ (W : World) (x : α), S w0 W R → x ∈ l → ∀ cs : List Value, d.K w0 x cs → Calls Try.prog g (#[.agg cs.toArray] ++ lb) W fun e w' => e = .returned (.bool (p x)) ∧ S w0 w' R
def TellsS (w0 : World) (R : HP) (g : Nat) (lb : Array Value) (l : List ByteArray) (p : ByteArray → Bool) : Prop :=
  ∀ (W : World) (x : ByteArray), S w0 W R → x ∈ l → Calls Try.prog g (#[.string x] ++ lb) W fun e w' => e = .returned (.bool (p x)) ∧ S w0 w' R
/-- The place of the first that is so. -/
def Place {α : Type} (p : α → Bool) (l : List α) (i : Int) : Prop :=
  (∃ (k : Nat) (x : α), i = k ∧ l[k]? = some x ∧ p x = true ∧ ∀ y ∈ l.take k, p y = false) ∨ (i = -1 ∧ ∀ y ∈ l, p y = false)
theorem getD_mem {α : Type} (l : List α) (z : α) (x : Int) (h0 : 0 ≤ x) (h1 : x < l.length) : l[x.toNat]? = some (l.getD x.toNat z) := by
  rw [List.getD_eq_getElem?_getD, List.getElem?_eq_getElem (by omega)]; rfl
theorem all_any {α : Type} (p : α → Bool) (l : List α) : l.all p = !(l.any fun x => !p x) := by
  induction l with
  | nil => rfl
  | cons a l ih => simp [ih]
set_option maxHeartbeats 1600000 in
set_option maxRecDepth 100000 in
theorem index_strs (g : Nat) (lb : Array Value) (eg : ∀ args w, (callFunc g args).run Try.prog w = .ok (.enter g args) w) (p : ByteArray → Bool) (A : Option Addr) (c : Nat) (l : List (ByteArray)) (hC : Kd.string.C w0 A l.length l) (h : S w0 w R) (hp : TellsS w0 R g lb l p) :
    Calls Try.prog 112 #[.slice A l.length c, .func (.func g) #[] lb] w fun e w' => ∃ i : Int, e = .returned (.int .i64 i) ∧ S w0 w' R ∧ Place p l i := by
  have H := Lib.hid (And.intro h (And.intro hC hp))
  have hl : l.length ≤ 9223372036854775807 := hC.2.1
  clear h hC hp
  go_enter Try.func112, Try.ntmps112
  go_wp2
  go_loopw [5, 8] (fun _ i wr => ∃ x : Int, 0 ≤ x ∧ x ≤ l.length ∧ i = .int .i64 x ∧ Hid (S w0 wr R) ∧ Hid (∀ y ∈ l.take x.toNat, p y = false)) (fun _ i _ => l.length - (intOf i).toNat)
  case atStart => exact ⟨0, Int.le_refl _, by omega, rfl, Lib.hid H.out.1, Lib.hid (by simp)⟩
  case round =>
    obtain ⟨x, hx0, hx1, rfl, HS, HN⟩ := hrel
    by_cases hlt : x < l.length
    · obtain ⟨ad, cs, rfl, hcl0, hK0, hcell0⟩ := Kd.C_get H.out.2.1 (⟨#[]⟩ : ByteArray) x hx0 hlt
      have hcell : ∀ (j : Nat) (u : Value), cs[j]? = some u → w0.cell? (ad.add (x.toNat * 1 + j)) = some u := hcell0
      have hcl : cs.length = 1 := hcl0
      have hK := hK0
      clear hcell0 hcl0 hK0
      have HR := Lib.hid (getD_mem l (⟨#[]⟩ : ByteArray) x hx0 hlt)
      obtain rfl : cs = [.string (l.getD x.toNat (⟨#[]⟩ : ByteArray))] := hK
      have hcall := H.out.2.2 wr _ HS.out (List.mem_of_getElem? HR.out)
      generalize l.getD x.toNat (⟨#[]⟩ : ByteArray) = r at *
      have d0 : wr.cell? (ad.add x.toNat) = some (.string r) := by have h := pw_cell_below HS.out.below (hcell 0 _ rfl); rwa [Nat.mul_one, Nat.add_zero] at h
      try clear hcell
      try clear hK
      try clear hcl
      have p126 := eq_true hx0
      have q126 : (x < (l.length : Int)) = True := eq_true hlt
      cases hq : p r with
      | true =>
        rw [hq] at hcall
        have HQ := Lib.hid hq
        clear hq
        go_wp2_with (go_at_fn g; refine hcall.mono ?_; rintro e w' ⟨rfl, hb'⟩)
        go_ret
        exact ⟨x, rfl, hb', .inl ⟨x.toNat, r, by omega, HR.out, HQ.out, HN.out⟩⟩
      | false =>
        rw [hq] at hcall
        have HQ := Lib.hid hq
        clear hq
        go_wp2_with (go_at_fn g; refine hcall.mono ?_; rintro e w' ⟨rfl, hb'⟩)
        refine ⟨⟨x + 1, by omega, by omega, by go_num, Lib.hid hb', Lib.hid ?_⟩, by simp only [intOf]; omega⟩
        intro y hy
        have e1 : (x + 1).toNat = x.toNat + 1 := by omega
        rw [e1, List.take_add_one, HR.out] at hy
        rcases List.mem_append.1 hy with hy | hy
        · exact HN.out y hy
        · simp at hy
          rw [hy]; exact HQ.out
    · go_wp2
      go_ret
      exact ⟨_, rfl, HS.out, .inr ⟨rfl, by have h := HN.out; rwa [List.take_of_length_le (by omega)] at h⟩⟩
theorem contains_strs (g : Nat) (lb : Array Value) (eg : ∀ args w, (callFunc g args).run Try.prog w = .ok (.enter g args) w) (p : ByteArray → Bool) (A : Option Addr) (c : Nat) (l : List (ByteArray)) (hC : Kd.string.C w0 A l.length l) (h : S w0 w R) (hp : TellsS w0 R g lb l p) :
    Calls Try.prog 71 #[.slice A l.length c, .func (.func g) #[] lb] w fun e w' => e = .returned (.bool (l.any p)) ∧ S w0 w' R := by
  have hi := index_strs g lb eg p A c l hC h hp
  clear h hC hp
  go_enter Try.func71, Try.ntmps71
  go_wp2_with fail
  refine hi.mono ?_
  rintro e w' ⟨i, rfl, h2, h3⟩
  have H2 := Lib.hid h2
  rcases h3 with ⟨k, r, rfl, hr, hpr, -⟩ | ⟨rfl, hn⟩
  · have e1 : l.any p = true := List.any_eq_true.2 ⟨r, List.mem_of_getElem? hr, hpr⟩
    go_wp2
    go_ret
    rw [e1]
    exact ⟨rfl, H2.out⟩
  · have e1 : l.any p = false := List.any_eq_false.2 fun x hx => by rw [hn x hx]; simp
    go_wp2
    go_ret
    rw [e1]
    exact ⟨rfl, H2.out⟩
set_option maxHeartbeats 1600000 in
set_option maxRecDepth 100000 in
theorem index_cons (g : Nat) (lb : Array Value) (eg : ∀ args w, (callFunc g args).run Try.prog w = .ok (.enter g args) w) (p : Con → Bool) (A : Option Addr) (c : Nat) (l : List (Con)) (hC : kCon.C w0 A l.length l) (h : S w0 w R) (hp : Tells kCon w0 R g lb l p) :
    Calls Try.prog 151 #[.slice A l.length c, .func (.func g) #[] lb] w fun e w' => ∃ i : Int, e = .returned (.int .i64 i) ∧ S w0 w' R ∧ Place p l i := by
  have H := Lib.hid (And.intro h (And.intro hC hp))
  have hl : l.length ≤ 9223372036854775807 := hC.2.1
  clear h hC hp
  go_enter Try.func151, Try.ntmps151
  go_wp2
  go_loopw [5, 8] (fun _ i wr => ∃ x : Int, 0 ≤ x ∧ x ≤ l.length ∧ i = .int .i64 x ∧ Hid (S w0 wr R) ∧ Hid (∀ y ∈ l.take x.toNat, p y = false)) (fun _ i _ => l.length - (intOf i).toNat)
  case atStart => exact ⟨0, Int.le_refl _, by omega, rfl, Lib.hid H.out.1, Lib.hid (by simp)⟩
  case round =>
    obtain ⟨x, hx0, hx1, rfl, HS, HN⟩ := hrel
    by_cases hlt : x < l.length
    · obtain ⟨ad, cs, rfl, hcl0, hK0, hcell0⟩ := Kd.C_get H.out.2.1 zCon x hx0 hlt
      have hcell : ∀ (j : Nat) (u : Value), cs[j]? = some u → w0.cell? (ad.add (x.toNat * 6 + j)) = some u := hcell0
      have hcl : cs.length = 6 := hcl0
      have hK := hK0
      clear hcell0 hcl0 hK0
      have HR := Lib.hid (getD_mem l zCon x hx0 hlt)
      have hcall := H.out.2.2 wr _ HS.out (List.mem_of_getElem? HR.out) _ hK
      obtain ⟨A5, c5, rfl, -⟩ := PScopeTwice.k50_open (id hK)
      generalize l.getD x.toNat zCon = r at *
      have d0 : wr.cell? (ad.add (x.toNat * 6)) = some (.int .i64 r.f0) := pw_cell_below HS.out.below (hcell 0 _ rfl)
      have d1 : wr.cell? ⟨(ad.add (x.toNat * 6)).block, (ad.add (x.toNat * 6)).off + 1, none⟩ = some (.int .i64 r.f1) := by rw [← add_field _ _ 1 (by omega)]; exact pw_cell_below HS.out.below (hcell 1 _ rfl)
      have d2 : wr.cell? ⟨(ad.add (x.toNat * 6)).block, (ad.add (x.toNat * 6)).off + 2, none⟩ = some (.int .i64 r.f2) := by rw [← add_field _ _ 2 (by omega)]; exact pw_cell_below HS.out.below (hcell 2 _ rfl)
      have d3 : wr.cell? ⟨(ad.add (x.toNat * 6)).block, (ad.add (x.toNat * 6)).off + 3, none⟩ = some (.bool r.f3) := by rw [← add_field _ _ 3 (by omega)]; exact pw_cell_below HS.out.below (hcell 3 _ rfl)
      have d4 : wr.cell? ⟨(ad.add (x.toNat * 6)).block, (ad.add (x.toNat * 6)).off + 4, none⟩ = some (.bool r.f4) := by rw [← add_field _ _ 4 (by omega)]; exact pw_cell_below HS.out.below (hcell 4 _ rfl)
      have d5 : wr.cell? ⟨(ad.add (x.toNat * 6)).block, (ad.add (x.toNat * 6)).off + 5, none⟩ = some (.slice A5 r.f5.length c5) := by rw [← add_field _ _ 5 (by omega)]; exact pw_cell_below HS.out.below (hcell 5 _ rfl)
      try clear hcell
      try clear hK
      try clear hcl
      have p126 := eq_true hx0
      have q126 : (x < (l.length : Int)) = True := eq_true hlt
      cases hq : p r with
      | true =>
        rw [hq] at hcall
        have HQ := Lib.hid hq
        clear hq
        go_wp2_with (go_at_fn g; refine hcall.mono ?_; rintro e w' ⟨rfl, hb'⟩)
        go_ret
        exact ⟨x, rfl, hb', .inl ⟨x.toNat, r, by omega, HR.out, HQ.out, HN.out⟩⟩
      | false =>
        rw [hq] at hcall
        have HQ := Lib.hid hq
        clear hq
        go_wp2_with (go_at_fn g; refine hcall.mono ?_; rintro e w' ⟨rfl, hb'⟩)
        refine ⟨⟨x + 1, by omega, by omega, by go_num, Lib.hid hb', Lib.hid ?_⟩, by simp only [intOf]; omega⟩
        intro y hy
        have e1 : (x + 1).toNat = x.toNat + 1 := by omega
        rw [e1, List.take_add_one, HR.out] at hy
        rcases List.mem_append.1 hy with hy | hy
        · exact HN.out y hy
        · simp at hy
          rw [hy]; exact HQ.out
    · go_wp2
      go_ret
      exact ⟨_, rfl, HS.out, .inr ⟨rfl, by have h := HN.out; rwa [List.take_of_length_le (by omega)] at h⟩⟩
theorem contains_cons (g : Nat) (lb : Array Value) (eg : ∀ args w, (callFunc g args).run Try.prog w = .ok (.enter g args) w) (p : Con → Bool) (A : Option Addr) (c : Nat) (l : List (Con)) (hC : kCon.C w0 A l.length l) (h : S w0 w R) (hp : Tells kCon w0 R g lb l p) :
    Calls Try.prog 148 #[.slice A l.length c, .func (.func g) #[] lb] w fun e w' => e = .returned (.bool (l.any p)) ∧ S w0 w' R := by
  have hi := index_cons g lb eg p A c l hC h hp
  clear h hC hp
  go_enter Try.func148, Try.ntmps148
  go_wp2_with fail
  refine hi.mono ?_
  rintro e w' ⟨i, rfl, h2, h3⟩
  have H2 := Lib.hid h2
  rcases h3 with ⟨k, r, rfl, hr, hpr, -⟩ | ⟨rfl, hn⟩
  · have e1 : l.any p = true := List.any_eq_true.2 ⟨r, List.mem_of_getElem? hr, hpr⟩
    go_wp2
    go_ret
    rw [e1]
    exact ⟨rfl, H2.out⟩
  · have e1 : l.any p = false := List.any_eq_false.2 fun x hx => by rw [hn x hx]; simp
    go_wp2
    go_ret
    rw [e1]
    exact ⟨rfl, H2.out⟩
set_option maxHeartbeats 1600000 in
set_option maxRecDepth 100000 in
theorem index_pts (g : Nat) (lb : Array Value) (eg : ∀ args w, (callFunc g args).run Try.prog w = .ok (.enter g args) w) (p : Pt Ty → Bool) (A : Option Addr) (c : Nat) (l : List (Pt Ty)) (hC : kPt.C w0 A l.length l) (h : S w0 w R) (hp : Tells kPt w0 R g lb l p) :
    Calls Try.prog 120 #[.slice A l.length c, .func (.func g) #[] lb] w fun e w' => ∃ i : Int, e = .returned (.int .i64 i) ∧ S w0 w' R ∧ Place p l i := by
  have H := Lib.hid (And.intro h (And.intro hC hp))
  have hl : l.length ≤ 9223372036854775807 := hC.2.1
  clear h hC hp
  go_enter Try.func120, Try.ntmps120
  go_wp2
  go_loopw [5, 8] (fun _ i wr => ∃ x : Int, 0 ≤ x ∧ x ≤ l.length ∧ i = .int .i64 x ∧ Hid (S w0 wr R) ∧ Hid (∀ y ∈ l.take x.toNat, p y = false)) (fun _ i _ => l.length - (intOf i).toNat)
  case atStart => exact ⟨0, Int.le_refl _, by omega, rfl, Lib.hid H.out.1, Lib.hid (by simp)⟩
  case round =>
    obtain ⟨x, hx0, hx1, rfl, HS, HN⟩ := hrel
    by_cases hlt : x < l.length
    · obtain ⟨ad, cs, rfl, hcl0, hK0, hcell0⟩ := Kd.C_get H.out.2.1 zPt x hx0 hlt
      have hcell : ∀ (j : Nat) (u : Value), cs[j]? = some u → w0.cell? (ad.add (x.toNat * 18 + j)) = some u := hcell0
      have hcl : cs.length = 18 := hcl0
      have hK := hK0
      clear hcell0 hcl0 hK0
      have HR := Lib.hid (getD_mem l zPt x hx0 hlt)
      have hcall := H.out.2.2 wr _ HS.out (List.mem_of_getElem? HR.out) _ hK
      obtain ⟨ts, A17, c17, rfl, hT, -⟩ := kPt_open (id hK)
      obtain ⟨A7, c7, A10, c10, A11, c11, A12, c12, A13, c13, A14, c14, rfl, -⟩ := kTy_open hT
      generalize l.getD x.toNat zPt = r at *
      have d0 : wr.cell? (ad.add (x.toNat * 18)) = some (.string r.n) := pw_cell_below HS.out.below (hcell 0 _ rfl)
      have d1 : wr.cell? ⟨(ad.add (x.toNat * 18)).block, (ad.add (x.toNat * 18)).off + 1, none⟩ = some (.int .i64 r.t.k) := by rw [← add_field _ _ 1 (by omega)]; exact pw_cell_below HS.out.below (hcell 1 _ rfl)
      have d2 : wr.cell? ⟨(ad.add (x.toNat * 18)).block, (ad.add (x.toNat * 18)).off + 2, none⟩ = some (.string r.t.n) := by rw [← add_field _ _ 2 (by omega)]; exact pw_cell_below HS.out.below (hcell 2 _ rfl)
      have d3 : wr.cell? ⟨(ad.add (x.toNat * 18)).block, (ad.add (x.toNat * 18)).off + 3, none⟩ = some (.int .i64 r.t.c.f0) := by rw [← add_field _ _ 3 (by omega)]; exact pw_cell_below HS.out.below (hcell 3 _ rfl)
      have d4 : wr.cell? ⟨(ad.add (x.toNat * 18)).block, (ad.add (x.toNat * 18)).off + 4, none⟩ = some (.int .i64 r.t.c.f1) := by rw [← add_field _ _ 4 (by omega)]; exact pw_cell_below HS.out.below (hcell 4 _ rfl)
      have d5 : wr.cell? ⟨(ad.add (x.toNat * 18)).block, (ad.add (x.toNat * 18)).off + 5, none⟩ = some (.int .i64 r.t.c.f2) := by rw [← add_field _ _ 5 (by omega)]; exact pw_cell_below HS.out.below (hcell 5 _ rfl)
      have d6 : wr.cell? ⟨(ad.add (x.toNat * 18)).block, (ad.add (x.toNat * 18)).off + 6, none⟩ = some (.bool r.t.c.f3) := by rw [← add_field _ _ 6 (by omega)]; exact pw_cell_below HS.out.below (hcell 6 _ rfl)
      have d7 : wr.cell? ⟨(ad.add (x.toNat * 18)).block, (ad.add (x.toNat * 18)).off + 7, none⟩ = some (.bool r.t.c.f4) := by rw [← add_field _ _ 7 (by omega)]; exact pw_cell_below HS.out.below (hcell 7 _ rfl)
      have d8 : wr.cell? ⟨(ad.add (x.toNat * 18)).block, (ad.add (x.toNat * 18)).off + 8, none⟩ = some (.slice A7 r.t.c.f5.length c7) := by rw [← add_field _ _ 8 (by omega)]; exact pw_cell_below HS.out.below (hcell 8 _ rfl)
      have d9 : wr.cell? ⟨(ad.add (x.toNat * 18)).block, (ad.add (x.toNat * 18)).off + 9, none⟩ = some (.bool r.t.e) := by rw [← add_field _ _ 9 (by omega)]; exact pw_cell_below HS.out.below (hcell 9 _ rfl)
      have d10 : wr.cell? ⟨(ad.add (x.toNat * 18)).block, (ad.add (x.toNat * 18)).off + 10, none⟩ = some (.string r.t.fr) := by rw [← add_field _ _ 10 (by omega)]; exact pw_cell_below HS.out.below (hcell 10 _ rfl)
      have d11 : wr.cell? ⟨(ad.add (x.toNat * 18)).block, (ad.add (x.toNat * 18)).off + 11, none⟩ = some (.slice A10 r.t.ns.length c10) := by rw [← add_field _ _ 11 (by omega)]; exact pw_cell_below HS.out.below (hcell 11 _ rfl)
      have d12 : wr.cell? ⟨(ad.add (x.toNat * 18)).block, (ad.add (x.toNat * 18)).off + 12, none⟩ = some (.slice A11 r.t.mo.length c11) := by rw [← add_field _ _ 12 (by omega)]; exact pw_cell_below HS.out.below (hcell 12 _ rfl)
      have d13 : wr.cell? ⟨(ad.add (x.toNat * 18)).block, (ad.add (x.toNat * 18)).off + 13, none⟩ = some (.slice A12 r.t.ps.length c12) := by rw [← add_field _ _ 13 (by omega)]; exact pw_cell_below HS.out.below (hcell 13 _ rfl)
      have d14 : wr.cell? ⟨(ad.add (x.toNat * 18)).block, (ad.add (x.toNat * 18)).off + 14, none⟩ = some (.slice A13 r.t.ad.length c13) := by rw [← add_field _ _ 14 (by omega)]; exact pw_cell_below HS.out.below (hcell 14 _ rfl)
      have d15 : wr.cell? ⟨(ad.add (x.toNat * 18)).block, (ad.add (x.toNat * 18)).off + 15, none⟩ = some (.slice A14 r.t.el.length c14) := by rw [← add_field _ _ 15 (by omega)]; exact pw_cell_below HS.out.below (hcell 15 _ rfl)
      have d16 : wr.cell? ⟨(ad.add (x.toNat * 18)).block, (ad.add (x.toNat * 18)).off + 16, none⟩ = some (.bool r.o) := by rw [← add_field _ _ 16 (by omega)]; exact pw_cell_below HS.out.below (hcell 16 _ rfl)
      have d17 : wr.cell? ⟨(ad.add (x.toNat * 18)).block, (ad.add (x.toNat * 18)).off + 17, none⟩ = some (.slice A17 r.d.length c17) := by rw [← add_field _ _ 17 (by omega)]; exact pw_cell_below HS.out.below (hcell 17 _ rfl)
      try clear hcell
      try clear hK
      try clear hcl
      have p126 := eq_true hx0
      have q126 : (x < (l.length : Int)) = True := eq_true hlt
      cases hq : p r with
      | true =>
        rw [hq] at hcall
        have HQ := Lib.hid hq
        clear hq
        go_wp2_with (go_at_fn g; refine hcall.mono ?_; rintro e w' ⟨rfl, hb'⟩)
        go_ret
        exact ⟨x, rfl, hb', .inl ⟨x.toNat, r, by omega, HR.out, HQ.out, HN.out⟩⟩
      | false =>
        rw [hq] at hcall
        have HQ := Lib.hid hq
        clear hq
        go_wp2_with (go_at_fn g; refine hcall.mono ?_; rintro e w' ⟨rfl, hb'⟩)
        refine ⟨⟨x + 1, by omega, by omega, by go_num, Lib.hid hb', Lib.hid ?_⟩, by simp only [intOf]; omega⟩
        intro y hy
        have e1 : (x + 1).toNat = x.toNat + 1 := by omega
        rw [e1, List.take_add_one, HR.out] at hy
        rcases List.mem_append.1 hy with hy | hy
        · exact HN.out y hy
        · simp at hy
          rw [hy]; exact HQ.out
    · go_wp2
      go_ret
      exact ⟨_, rfl, HS.out, .inr ⟨rfl, by have h := HN.out; rwa [List.take_of_length_le (by omega)] at h⟩⟩
theorem contains_pts (g : Nat) (lb : Array Value) (eg : ∀ args w, (callFunc g args).run Try.prog w = .ok (.enter g args) w) (p : Pt Ty → Bool) (A : Option Addr) (c : Nat) (l : List (Pt Ty)) (hC : kPt.C w0 A l.length l) (h : S w0 w R) (hp : Tells kPt w0 R g lb l p) :
    Calls Try.prog 86 #[.slice A l.length c, .func (.func g) #[] lb] w fun e w' => e = .returned (.bool (l.any p)) ∧ S w0 w' R := by
  have hi := index_pts g lb eg p A c l hC h hp
  clear h hC hp
  go_enter Try.func86, Try.ntmps86
  go_wp2_with fail
  refine hi.mono ?_
  rintro e w' ⟨i, rfl, h2, h3⟩
  have H2 := Lib.hid h2
  rcases h3 with ⟨k, r, rfl, hr, hpr, -⟩ | ⟨rfl, hn⟩
  · have e1 : l.any p = true := List.any_eq_true.2 ⟨r, List.mem_of_getElem? hr, hpr⟩
    go_wp2
    go_ret
    rw [e1]
    exact ⟨rfl, H2.out⟩
  · have e1 : l.any p = false := List.any_eq_false.2 fun x hx => by rw [hn x hx]; simp
    go_wp2
    go_ret
    rw [e1]
    exact ⟨rfl, H2.out⟩
set_option maxHeartbeats 1600000 in
set_option maxRecDepth 100000 in
theorem index_dfs (g : Nat) (lb : Array Value) (eg : ∀ args w, (callFunc g args).run Try.prog w = .ok (.enter g args) w) (p : Df → Bool) (A : Option Addr) (c : Nat) (l : List (Df)) (hC : kDf.C w0 A l.length l) (h : S w0 w R) (hp : Tells kDf w0 R g lb l p) :
    Calls Try.prog 113 #[.slice A l.length c, .func (.func g) #[] lb] w fun e w' => ∃ i : Int, e = .returned (.int .i64 i) ∧ S w0 w' R ∧ Place p l i := by
  have H := Lib.hid (And.intro h (And.intro hC hp))
  have hl : l.length ≤ 9223372036854775807 := hC.2.1
  clear h hC hp
  go_enter Try.func113, Try.ntmps113
  go_wp2
  go_loopw [5, 8] (fun _ i wr => ∃ x : Int, 0 ≤ x ∧ x ≤ l.length ∧ i = .int .i64 x ∧ Hid (S w0 wr R) ∧ Hid (∀ y ∈ l.take x.toNat, p y = false)) (fun _ i _ => l.length - (intOf i).toNat)
  case atStart => exact ⟨0, Int.le_refl _, by omega, rfl, Lib.hid H.out.1, Lib.hid (by simp)⟩
  case round =>
    obtain ⟨x, hx0, hx1, rfl, HS, HN⟩ := hrel
    by_cases hlt : x < l.length
    · obtain ⟨ad, cs, rfl, hcl0, hK0, hcell0⟩ := Kd.C_get H.out.2.1 zDf x hx0 hlt
      have hcell : ∀ (j : Nat) (u : Value), cs[j]? = some u → w0.cell? (ad.add (x.toNat * 16 + j)) = some u := hcell0
      have hcl : cs.length = 16 := hcl0
      have hK := hK0
      clear hcell0 hcl0 hK0
      have HR := Lib.hid (getD_mem l zDf x hx0 hlt)
      have hcall := H.out.2.2 wr _ HS.out (List.mem_of_getElem? HR.out) _ hK
      obtain ⟨ts, rfl, hT⟩ := kDf_open (id hK)
      obtain ⟨A7, c7, A10, c10, A11, c11, A12, c12, A13, c13, A14, c14, rfl, -⟩ := kTy_open hT
      generalize l.getD x.toNat zDf = r at *
      have d0 : wr.cell? (ad.add (x.toNat * 16)) = some (.string r.n) := pw_cell_below HS.out.below (hcell 0 _ rfl)
      have d1 : wr.cell? ⟨(ad.add (x.toNat * 16)).block, (ad.add (x.toNat * 16)).off + 1, none⟩ = some (.int .i64 r.t.k) := by rw [← add_field _ _ 1 (by omega)]; exact pw_cell_below HS.out.below (hcell 1 _ rfl)
      have d2 : wr.cell? ⟨(ad.add (x.toNat * 16)).block, (ad.add (x.toNat * 16)).off + 2, none⟩ = some (.string r.t.n) := by rw [← add_field _ _ 2 (by omega)]; exact pw_cell_below HS.out.below (hcell 2 _ rfl)
      have d3 : wr.cell? ⟨(ad.add (x.toNat * 16)).block, (ad.add (x.toNat * 16)).off + 3, none⟩ = some (.int .i64 r.t.c.f0) := by rw [← add_field _ _ 3 (by omega)]; exact pw_cell_below HS.out.below (hcell 3 _ rfl)
      have d4 : wr.cell? ⟨(ad.add (x.toNat * 16)).block, (ad.add (x.toNat * 16)).off + 4, none⟩ = some (.int .i64 r.t.c.f1) := by rw [← add_field _ _ 4 (by omega)]; exact pw_cell_below HS.out.below (hcell 4 _ rfl)
      have d5 : wr.cell? ⟨(ad.add (x.toNat * 16)).block, (ad.add (x.toNat * 16)).off + 5, none⟩ = some (.int .i64 r.t.c.f2) := by rw [← add_field _ _ 5 (by omega)]; exact pw_cell_below HS.out.below (hcell 5 _ rfl)
      have d6 : wr.cell? ⟨(ad.add (x.toNat * 16)).block, (ad.add (x.toNat * 16)).off + 6, none⟩ = some (.bool r.t.c.f3) := by rw [← add_field _ _ 6 (by omega)]; exact pw_cell_below HS.out.below (hcell 6 _ rfl)
      have d7 : wr.cell? ⟨(ad.add (x.toNat * 16)).block, (ad.add (x.toNat * 16)).off + 7, none⟩ = some (.bool r.t.c.f4) := by rw [← add_field _ _ 7 (by omega)]; exact pw_cell_below HS.out.below (hcell 7 _ rfl)
      have d8 : wr.cell? ⟨(ad.add (x.toNat * 16)).block, (ad.add (x.toNat * 16)).off + 8, none⟩ = some (.slice A7 r.t.c.f5.length c7) := by rw [← add_field _ _ 8 (by omega)]; exact pw_cell_below HS.out.below (hcell 8 _ rfl)
      have d9 : wr.cell? ⟨(ad.add (x.toNat * 16)).block, (ad.add (x.toNat * 16)).off + 9, none⟩ = some (.bool r.t.e) := by rw [← add_field _ _ 9 (by omega)]; exact pw_cell_below HS.out.below (hcell 9 _ rfl)
      have d10 : wr.cell? ⟨(ad.add (x.toNat * 16)).block, (ad.add (x.toNat * 16)).off + 10, none⟩ = some (.string r.t.fr) := by rw [← add_field _ _ 10 (by omega)]; exact pw_cell_below HS.out.below (hcell 10 _ rfl)
      have d11 : wr.cell? ⟨(ad.add (x.toNat * 16)).block, (ad.add (x.toNat * 16)).off + 11, none⟩ = some (.slice A10 r.t.ns.length c10) := by rw [← add_field _ _ 11 (by omega)]; exact pw_cell_below HS.out.below (hcell 11 _ rfl)
      have d12 : wr.cell? ⟨(ad.add (x.toNat * 16)).block, (ad.add (x.toNat * 16)).off + 12, none⟩ = some (.slice A11 r.t.mo.length c11) := by rw [← add_field _ _ 12 (by omega)]; exact pw_cell_below HS.out.below (hcell 12 _ rfl)
      have d13 : wr.cell? ⟨(ad.add (x.toNat * 16)).block, (ad.add (x.toNat * 16)).off + 13, none⟩ = some (.slice A12 r.t.ps.length c12) := by rw [← add_field _ _ 13 (by omega)]; exact pw_cell_below HS.out.below (hcell 13 _ rfl)
      have d14 : wr.cell? ⟨(ad.add (x.toNat * 16)).block, (ad.add (x.toNat * 16)).off + 14, none⟩ = some (.slice A13 r.t.ad.length c13) := by rw [← add_field _ _ 14 (by omega)]; exact pw_cell_below HS.out.below (hcell 14 _ rfl)
      have d15 : wr.cell? ⟨(ad.add (x.toNat * 16)).block, (ad.add (x.toNat * 16)).off + 15, none⟩ = some (.slice A14 r.t.el.length c14) := by rw [← add_field _ _ 15 (by omega)]; exact pw_cell_below HS.out.below (hcell 15 _ rfl)
      try clear hcell
      try clear hK
      try clear hcl
      have p126 := eq_true hx0
      have q126 : (x < (l.length : Int)) = True := eq_true hlt
      cases hq : p r with
      | true =>
        rw [hq] at hcall
        have HQ := Lib.hid hq
        clear hq
        go_wp2_with (go_at_fn g; refine hcall.mono ?_; rintro e w' ⟨rfl, hb'⟩)
        go_ret
        exact ⟨x, rfl, hb', .inl ⟨x.toNat, r, by omega, HR.out, HQ.out, HN.out⟩⟩
      | false =>
        rw [hq] at hcall
        have HQ := Lib.hid hq
        clear hq
        go_wp2_with (go_at_fn g; refine hcall.mono ?_; rintro e w' ⟨rfl, hb'⟩)
        refine ⟨⟨x + 1, by omega, by omega, by go_num, Lib.hid hb', Lib.hid ?_⟩, by simp only [intOf]; omega⟩
        intro y hy
        have e1 : (x + 1).toNat = x.toNat + 1 := by omega
        rw [e1, List.take_add_one, HR.out] at hy
        rcases List.mem_append.1 hy with hy | hy
        · exact HN.out y hy
        · simp at hy
          rw [hy]; exact HQ.out
    · go_wp2
      go_ret
      exact ⟨_, rfl, HS.out, .inr ⟨rfl, by have h := HN.out; rwa [List.take_of_length_le (by omega)] at h⟩⟩
theorem contains_dfs (g : Nat) (lb : Array Value) (eg : ∀ args w, (callFunc g args).run Try.prog w = .ok (.enter g args) w) (p : Df → Bool) (A : Option Addr) (c : Nat) (l : List (Df)) (hC : kDf.C w0 A l.length l) (h : S w0 w R) (hp : Tells kDf w0 R g lb l p) :
    Calls Try.prog 73 #[.slice A l.length c, .func (.func g) #[] lb] w fun e w' => e = .returned (.bool (l.any p)) ∧ S w0 w' R := by
  have hi := index_dfs g lb eg p A c l hC h hp
  clear h hC hp
  go_enter Try.func73, Try.ntmps73
  go_wp2_with fail
  refine hi.mono ?_
  rintro e w' ⟨i, rfl, h2, h3⟩
  have H2 := Lib.hid h2
  rcases h3 with ⟨k, r, rfl, hr, hpr, -⟩ | ⟨rfl, hn⟩
  · have e1 : l.any p = true := List.any_eq_true.2 ⟨r, List.mem_of_getElem? hr, hpr⟩
    go_wp2
    go_ret
    rw [e1]
    exact ⟨rfl, H2.out⟩
  · have e1 : l.any p = false := List.any_eq_false.2 fun x hx => by rw [hn x hx]; simp
    go_wp2
    go_ret
    rw [e1]
    exact ⟨rfl, H2.out⟩
set_option maxHeartbeats 1600000 in
set_option maxRecDepth 100000 in
theorem index_mds (g : Nat) (lb : Array Value) (eg : ∀ args w, (callFunc g args).run Try.prog w = .ok (.enter g args) w) (p : Md → Bool) (A : Option Addr) (c : Nat) (l : List (Md)) (hC : kMd.C w0 A l.length l) (h : S w0 w R) (hp : Tells kMd w0 R g lb l p) :
    Calls Try.prog 69 #[.slice A l.length c, .func (.func g) #[] lb] w fun e w' => ∃ i : Int, e = .returned (.int .i64 i) ∧ S w0 w' R ∧ Place p l i := by
  have H := Lib.hid (And.intro h (And.intro hC hp))
  have hl : l.length ≤ 9223372036854775807 := hC.2.1
  clear h hC hp
  go_enter Try.func69, Try.ntmps69
  go_wp2
  go_loopw [5, 8] (fun _ i wr => ∃ x : Int, 0 ≤ x ∧ x ≤ l.length ∧ i = .int .i64 x ∧ Hid (S w0 wr R) ∧ Hid (∀ y ∈ l.take x.toNat, p y = false)) (fun _ i _ => l.length - (intOf i).toNat)
  case atStart => exact ⟨0, Int.le_refl _, by omega, rfl, Lib.hid H.out.1, Lib.hid (by simp)⟩
  case round =>
    obtain ⟨x, hx0, hx1, rfl, HS, HN⟩ := hrel
    by_cases hlt : x < l.length
    · obtain ⟨ad, cs, rfl, hcl0, hK0, hcell0⟩ := Kd.C_get H.out.2.1 zMd x hx0 hlt
      have hcell : ∀ (j : Nat) (u : Value), cs[j]? = some u → w0.cell? (ad.add (x.toNat * 4 + j)) = some u := hcell0
      have hcl : cs.length = 4 := hcl0
      have hK := hK0
      clear hcell0 hcl0 hK0
      have HR := Lib.hid (getD_mem l zMd x hx0 hlt)
      have hcall := H.out.2.2 wr _ HS.out (List.mem_of_getElem? HR.out) _ hK
      obtain ⟨A2, c2, A3, c3, rfl, -⟩ := kMd_open (id hK)
      generalize l.getD x.toNat zMd = r at *
      have d0 : wr.cell? (ad.add (x.toNat * 4)) = some (.string r.n) := pw_cell_below HS.out.below (hcell 0 _ rfl)
      have d1 : wr.cell? ⟨(ad.add (x.toNat * 4)).block, (ad.add (x.toNat * 4)).off + 1, none⟩ = some (.bool r.au) := by rw [← add_field _ _ 1 (by omega)]; exact pw_cell_below HS.out.below (hcell 1 _ rfl)
      have d2 : wr.cell? ⟨(ad.add (x.toNat * 4)).block, (ad.add (x.toNat * 4)).off + 2, none⟩ = some (.slice A2 r.im.length c2) := by rw [← add_field _ _ 2 (by omega)]; exact pw_cell_below HS.out.below (hcell 2 _ rfl)
      have d3 : wr.cell? ⟨(ad.add (x.toNat * 4)).block, (ad.add (x.toNat * 4)).off + 3, none⟩ = some (.slice A3 r.df.length c3) := by rw [← add_field _ _ 3 (by omega)]; exact pw_cell_below HS.out.below (hcell 3 _ rfl)
      try clear hcell
      try clear hK
      try clear hcl
      have p126 := eq_true hx0
      have q126 : (x < (l.length : Int)) = True := eq_true hlt
      cases hq : p r with
      | true =>
        rw [hq] at hcall
        have HQ := Lib.hid hq
        clear hq
        go_wp2_with (go_at_fn g; refine hcall.mono ?_; rintro e w' ⟨rfl, hb'⟩)
        go_ret
        exact ⟨x, rfl, hb', .inl ⟨x.toNat, r, by omega, HR.out, HQ.out, HN.out⟩⟩
      | false =>
        rw [hq] at hcall
        have HQ := Lib.hid hq
        clear hq
        go_wp2_with (go_at_fn g; refine hcall.mono ?_; rintro e w' ⟨rfl, hb'⟩)
        refine ⟨⟨x + 1, by omega, by omega, by go_num, Lib.hid hb', Lib.hid ?_⟩, by simp only [intOf]; omega⟩
        intro y hy
        have e1 : (x + 1).toNat = x.toNat + 1 := by omega
        rw [e1, List.take_add_one, HR.out] at hy
        rcases List.mem_append.1 hy with hy | hy
        · exact HN.out y hy
        · simp at hy
          rw [hy]; exact HQ.out
    · go_wp2
      go_ret
      exact ⟨_, rfl, HS.out, .inr ⟨rfl, by have h := HN.out; rwa [List.take_of_length_le (by omega)] at h⟩⟩
theorem contains_mds (g : Nat) (lb : Array Value) (eg : ∀ args w, (callFunc g args).run Try.prog w = .ok (.enter g args) w) (p : Md → Bool) (A : Option Addr) (c : Nat) (l : List (Md)) (hC : kMd.C w0 A l.length l) (h : S w0 w R) (hp : Tells kMd w0 R g lb l p) :
    Calls Try.prog 43 #[.slice A l.length c, .func (.func g) #[] lb] w fun e w' => e = .returned (.bool (l.any p)) ∧ S w0 w' R := by
  have hi := index_mds g lb eg p A c l hC h hp
  clear h hC hp
  go_enter Try.func43, Try.ntmps43
  go_wp2_with fail
  refine hi.mono ?_
  rintro e w' ⟨i, rfl, h2, h3⟩
  have H2 := Lib.hid h2
  rcases h3 with ⟨k, r, rfl, hr, hpr, -⟩ | ⟨rfl, hn⟩
  · have e1 : l.any p = true := List.any_eq_true.2 ⟨r, List.mem_of_getElem? hr, hpr⟩
    go_wp2
    go_ret
    rw [e1]
    exact ⟨rfl, H2.out⟩
  · have e1 : l.any p = false := List.any_eq_false.2 fun x hx => by rw [hn x hx]; simp
    go_wp2
    go_ret
    rw [e1]
    exact ⟨rfl, H2.out⟩
set_option maxHeartbeats 1600000 in
set_option maxRecDepth 100000 in
theorem index_ens (g : Nat) (lb : Array Value) (eg : ∀ args w, (callFunc g args).run Try.prog w = .ok (.enter g args) w) (p : En → Bool) (A : Option Addr) (c : Nat) (l : List (En)) (hC : kEn.C w0 A l.length l) (h : S w0 w R) (hp : Tells kEn w0 R g lb l p) :
    Calls Try.prog 49 #[.slice A l.length c, .func (.func g) #[] lb] w fun e w' => ∃ i : Int, e = .returned (.int .i64 i) ∧ S w0 w' R ∧ Place p l i := by
  have H := Lib.hid (And.intro h (And.intro hC hp))
  have hl : l.length ≤ 9223372036854775807 := hC.2.1
  clear h hC hp
  go_enter Try.func49, Try.ntmps49
  go_wp2
  go_loopw [5, 8] (fun _ i wr => ∃ x : Int, 0 ≤ x ∧ x ≤ l.length ∧ i = .int .i64 x ∧ Hid (S w0 wr R) ∧ Hid (∀ y ∈ l.take x.toNat, p y = false)) (fun _ i _ => l.length - (intOf i).toNat)
  case atStart => exact ⟨0, Int.le_refl _, by omega, rfl, Lib.hid H.out.1, Lib.hid (by simp)⟩
  case round =>
    obtain ⟨x, hx0, hx1, rfl, HS, HN⟩ := hrel
    by_cases hlt : x < l.length
    · obtain ⟨ad, cs, rfl, hcl0, hK0, hcell0⟩ := Kd.C_get H.out.2.1 zEn x hx0 hlt
      have hcell : ∀ (j : Nat) (u : Value), cs[j]? = some u → w0.cell? (ad.add (x.toNat * 18 + j)) = some u := hcell0
      have hcl : cs.length = 18 := hcl0
      have hK := hK0
      clear hcell0 hcl0 hK0
      have HR := Lib.hid (getD_mem l zEn x hx0 hlt)
      have hcall := H.out.2.2 wr _ HS.out (List.mem_of_getElem? HR.out) _ hK
      obtain ⟨ts, rfl, hT⟩ := kEn_open (id hK)
      obtain ⟨A7, c7, A10, c10, A11, c11, A12, c12, A13, c13, A14, c14, rfl, -⟩ := kTy_open hT
      generalize l.getD x.toNat zEn = r at *
      have d0 : wr.cell? (ad.add (x.toNat * 18)) = some (.string r.m) := pw_cell_below HS.out.below (hcell 0 _ rfl)
      have d1 : wr.cell? ⟨(ad.add (x.toNat * 18)).block, (ad.add (x.toNat * 18)).off + 1, none⟩ = some (.string r.n) := by rw [← add_field _ _ 1 (by omega)]; exact pw_cell_below HS.out.below (hcell 1 _ rfl)
      have d2 : wr.cell? ⟨(ad.add (x.toNat * 18)).block, (ad.add (x.toNat * 18)).off + 2, none⟩ = some (.bool r.au) := by rw [← add_field _ _ 2 (by omega)]; exact pw_cell_below HS.out.below (hcell 2 _ rfl)
      have d3 : wr.cell? ⟨(ad.add (x.toNat * 18)).block, (ad.add (x.toNat * 18)).off + 3, none⟩ = some (.int .i64 r.t.k) := by rw [← add_field _ _ 3 (by omega)]; exact pw_cell_below HS.out.below (hcell 3 _ rfl)
      have d4 : wr.cell? ⟨(ad.add (x.toNat * 18)).block, (ad.add (x.toNat * 18)).off + 4, none⟩ = some (.string r.t.n) := by rw [← add_field _ _ 4 (by omega)]; exact pw_cell_below HS.out.below (hcell 4 _ rfl)
      have d5 : wr.cell? ⟨(ad.add (x.toNat * 18)).block, (ad.add (x.toNat * 18)).off + 5, none⟩ = some (.int .i64 r.t.c.f0) := by rw [← add_field _ _ 5 (by omega)]; exact pw_cell_below HS.out.below (hcell 5 _ rfl)
      have d6 : wr.cell? ⟨(ad.add (x.toNat * 18)).block, (ad.add (x.toNat * 18)).off + 6, none⟩ = some (.int .i64 r.t.c.f1) := by rw [← add_field _ _ 6 (by omega)]; exact pw_cell_below HS.out.below (hcell 6 _ rfl)
      have d7 : wr.cell? ⟨(ad.add (x.toNat * 18)).block, (ad.add (x.toNat * 18)).off + 7, none⟩ = some (.int .i64 r.t.c.f2) := by rw [← add_field _ _ 7 (by omega)]; exact pw_cell_below HS.out.below (hcell 7 _ rfl)
      have d8 : wr.cell? ⟨(ad.add (x.toNat * 18)).block, (ad.add (x.toNat * 18)).off + 8, none⟩ = some (.bool r.t.c.f3) := by rw [← add_field _ _ 8 (by omega)]; exact pw_cell_below HS.out.below (hcell 8 _ rfl)
      have d9 : wr.cell? ⟨(ad.add (x.toNat * 18)).block, (ad.add (x.toNat * 18)).off + 9, none⟩ = some (.bool r.t.c.f4) := by rw [← add_field _ _ 9 (by omega)]; exact pw_cell_below HS.out.below (hcell 9 _ rfl)
      have d10 : wr.cell? ⟨(ad.add (x.toNat * 18)).block, (ad.add (x.toNat * 18)).off + 10, none⟩ = some (.slice A7 r.t.c.f5.length c7) := by rw [← add_field _ _ 10 (by omega)]; exact pw_cell_below HS.out.below (hcell 10 _ rfl)
      have d11 : wr.cell? ⟨(ad.add (x.toNat * 18)).block, (ad.add (x.toNat * 18)).off + 11, none⟩ = some (.bool r.t.e) := by rw [← add_field _ _ 11 (by omega)]; exact pw_cell_below HS.out.below (hcell 11 _ rfl)
      have d12 : wr.cell? ⟨(ad.add (x.toNat * 18)).block, (ad.add (x.toNat * 18)).off + 12, none⟩ = some (.string r.t.fr) := by rw [← add_field _ _ 12 (by omega)]; exact pw_cell_below HS.out.below (hcell 12 _ rfl)
      have d13 : wr.cell? ⟨(ad.add (x.toNat * 18)).block, (ad.add (x.toNat * 18)).off + 13, none⟩ = some (.slice A10 r.t.ns.length c10) := by rw [← add_field _ _ 13 (by omega)]; exact pw_cell_below HS.out.below (hcell 13 _ rfl)
      have d14 : wr.cell? ⟨(ad.add (x.toNat * 18)).block, (ad.add (x.toNat * 18)).off + 14, none⟩ = some (.slice A11 r.t.mo.length c11) := by rw [← add_field _ _ 14 (by omega)]; exact pw_cell_below HS.out.below (hcell 14 _ rfl)
      have d15 : wr.cell? ⟨(ad.add (x.toNat * 18)).block, (ad.add (x.toNat * 18)).off + 15, none⟩ = some (.slice A12 r.t.ps.length c12) := by rw [← add_field _ _ 15 (by omega)]; exact pw_cell_below HS.out.below (hcell 15 _ rfl)
      have d16 : wr.cell? ⟨(ad.add (x.toNat * 18)).block, (ad.add (x.toNat * 18)).off + 16, none⟩ = some (.slice A13 r.t.ad.length c13) := by rw [← add_field _ _ 16 (by omega)]; exact pw_cell_below HS.out.below (hcell 16 _ rfl)
      have d17 : wr.cell? ⟨(ad.add (x.toNat * 18)).block, (ad.add (x.toNat * 18)).off + 17, none⟩ = some (.slice A14 r.t.el.length c14) := by rw [← add_field _ _ 17 (by omega)]; exact pw_cell_below HS.out.below (hcell 17 _ rfl)
      try clear hcell
      try clear hK
      try clear hcl
      have p126 := eq_true hx0
      have q126 : (x < (l.length : Int)) = True := eq_true hlt
      cases hq : p r with
      | true =>
        rw [hq] at hcall
        have HQ := Lib.hid hq
        clear hq
        go_wp2_with (go_at_fn g; refine hcall.mono ?_; rintro e w' ⟨rfl, hb'⟩)
        go_ret
        exact ⟨x, rfl, hb', .inl ⟨x.toNat, r, by omega, HR.out, HQ.out, HN.out⟩⟩
      | false =>
        rw [hq] at hcall
        have HQ := Lib.hid hq
        clear hq
        go_wp2_with (go_at_fn g; refine hcall.mono ?_; rintro e w' ⟨rfl, hb'⟩)
        refine ⟨⟨x + 1, by omega, by omega, by go_num, Lib.hid hb', Lib.hid ?_⟩, by simp only [intOf]; omega⟩
        intro y hy
        have e1 : (x + 1).toNat = x.toNat + 1 := by omega
        rw [e1, List.take_add_one, HR.out] at hy
        rcases List.mem_append.1 hy with hy | hy
        · exact HN.out y hy
        · simp at hy
          rw [hy]; exact HQ.out
    · go_wp2
      go_ret
      exact ⟨_, rfl, HS.out, .inr ⟨rfl, by have h := HN.out; rwa [List.take_of_length_le (by omega)] at h⟩⟩
end Go.Proofs.Ytbjddomocggjmaa.Sc
