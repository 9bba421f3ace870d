/- The walks of slices.IndexFunc, ContainsFunc at api.Arg, Stmt, Func. -/
import Derived.Test.YtbjddomocggjmaaFcO
import Derived.Shelf.Abstract
namespace Go.Proofs.Ytbjddomocggjmaa.Fc
open Go.RowKit Go.ChangeShapes Go.WideShapes Go.Proofs.Ytbjddomocggjmaa.Sep
open Go.Proofs.YtbjddomocggjmaaW.PrintWords
variable {w0 w : World} {R : HP}

abbrev S (w0 w : World) (R : HP) : Prop := St w0.heap.size w0 w R
/-- A closure that tells of an element, and leaves what is there. -/
def Tells {α : Type} (d : Kd α) (w0 : World) (R : HP) (g : Nat) (lb : Array Value) (l : List α) (p : α → Bool) : Prop :=
  ∀ (W : World) (x : α), S w0 W R → x ∈ l → ∀ cs : List Value, d.K w0 x cs → Calls Try.prog g (#[.agg ⟨cs⟩] ++ lb) W fun e w' => e = .returned (.bool (p x)) ∧ S w0 w' R
/-- The place of the first that is so. -/
def Place {α : Type} (p : α → Bool) (l : List α) (i : Int) : Prop :=
  (∃ (k : Nat) (x : α), i = k ∧ l[k]? = some x ∧ p x = true ∧ ∀ y ∈ l.take k, p y = false) ∨ (i = -1 ∧ ∀ y ∈ l, p y = false)
theorem getD_mem {α : Type} (l : List α) (z : α) (x : Int) (h0 : 0 ≤ x) (h1 : x < l.length) : l[x.toNat]? = some (l.getD x.toNat z) := by
  rw [List.getD_eq_getElem?_getD, List.getElem?_eq_getElem (by omega)]; rfl
set_option maxHeartbeats 1600000 in
theorem index_args (g : Nat) (lb : Array Value) (eg : ∀ args w, (callFunc g args).run Try.prog w = .ok (.enter g args) w) (p : Arg → Bool) (A : Option Addr) (c : Nat) (l : List Arg) (hC : PFragcheckChecks.k73.C w0 A l.length l) (h : S w0 w R) (hp : Tells PFragcheckChecks.k73 w0 R g lb l p) :
    Calls Try.prog 129 #[.slice A l.length c, .func (.func g) #[] lb] w fun e w' => ∃ i : Int, e = .returned (.int .i64 i) ∧ S w0 w' R ∧ Place p l i := by
  have H := Lib.hid (And.intro h (And.intro hC hp))
  have hl : l.length ≤ 9223372036854775807 := hC.2.1
  clear h hC hp
  go_enter Try.func129, Try.ntmps129
  go_wp2
  go_loopw [5, 8] (fun _ i wr => ∃ x : Int, 0 ≤ x ∧ x ≤ l.length ∧ i = .int .i64 x ∧ Hid (S w0 wr R) ∧ Hid (∀ y ∈ l.take x.toNat, p y = false)) (fun _ i _ => l.length - (intOf i).toNat)
  case atStart => exact ⟨0, Int.le_refl _, by omega, rfl, Lib.hid H.out.1, Lib.hid (by simp)⟩
  case round =>
    obtain ⟨x, hx0, hx1, rfl, HS, HN⟩ := hrel
    by_cases hlt : x < l.length
    · obtain ⟨ad, cs, rfl, hcl, hK, hcell0⟩ := Kd.C_get H.out.2.1 PFragcheckChecks.z73 x hx0 hlt
      have hcell : ∀ j u, cs[j]? = some u → w0.cell? (ad.add (x.toNat * 3 + j)) = some u := hcell0
      clear hcell0
      have HR := Lib.hid (getD_mem l PFragcheckChecks.z73 x hx0 hlt)
      have hcall := H.out.2.2 wr _ HS.out (List.mem_of_getElem? HR.out) _ hK
      obtain rfl := PFragcheckChecks.k73_open (id hK)
      generalize l.getD x.toNat PFragcheckChecks.z73 = r at *
      have d0 : wr.cell? (ad.add (x.toNat * 3)) = some (.bool r.f0) := pw_cell_below HS.out.below (hcell 0 _ rfl)
      have d1 : wr.cell? ⟨(ad.add (x.toNat * 3)).block, (ad.add (x.toNat * 3)).off + 1, none⟩ = some (.int .i64 r.f1) := by rw [← add_field _ _ 1 (by omega)]; exact pw_cell_below HS.out.below (hcell 1 _ rfl)
      have d2 : wr.cell? ⟨(ad.add (x.toNat * 3)).block, (ad.add (x.toNat * 3)).off + 2, none⟩ = some (.string r.f2) := by rw [← add_field _ _ 2 (by omega)]; exact pw_cell_below HS.out.below (hcell 2 _ rfl)
      clear hcell hK hcl
      have p126 := eq_true hx0
      have q126 : (x < (l.length : Int)) = True := eq_true hlt
      cases hq : p r with
      | true =>
        rw [hq] at hcall
        have HQ := Lib.hid hq
        clear hq
        go_wp2_with (go_at_fn g; refine hcall.mono ?_; rintro e w' ⟨rfl, hb'⟩)
        go_ret
        exact ⟨x, rfl, hb', .inl ⟨x.toNat, r, by omega, HR.out, HQ.out, HN.out⟩⟩
      | false =>
        rw [hq] at hcall
        have HQ := Lib.hid hq
        clear hq
        go_wp2_with (go_at_fn g; refine hcall.mono ?_; rintro e w' ⟨rfl, hb'⟩)
        refine ⟨⟨x + 1, by omega, by omega, by go_num, Lib.hid hb', Lib.hid ?_⟩, by simp only [intOf]; omega⟩
        intro y hy
        have e1 : (x + 1).toNat = x.toNat + 1 := by omega
        rw [e1, List.take_add_one, HR.out] at hy
        rcases List.mem_append.1 hy with hy | hy
        · exact HN.out y hy
        · simp at hy
          rw [hy]; exact HQ.out
    · go_wp2
      go_ret
      exact ⟨_, rfl, HS.out, .inr ⟨rfl, by have h := HN.out; rwa [List.take_of_length_le (by omega)] at h⟩⟩
theorem contains_args (g : Nat) (lb : Array Value) (eg : ∀ args w, (callFunc g args).run Try.prog w = .ok (.enter g args) w) (p : Arg → Bool) (A : Option Addr) (c : Nat) (l : List Arg) (hC : PFragcheckChecks.k73.C w0 A l.length l) (h : S w0 w R) (hp : Tells PFragcheckChecks.k73 w0 R g lb l p) :
    Calls Try.prog 107 #[.slice A l.length c, .func (.func g) #[] lb] w fun e w' => e = .returned (.bool (l.any p)) ∧ S w0 w' R := by
  have hi := index_args g lb eg p A c l hC h hp
  clear h hC hp
  go_enter Try.func107, Try.ntmps107
  go_wp2_with fail
  refine hi.mono ?_
  rintro e w' ⟨i, rfl, h2, h3⟩
  have H2 := Lib.hid h2
  rcases h3 with ⟨k, r, rfl, hr, hpr, -⟩ | ⟨rfl, hn⟩
  · have e1 : l.any p = true := List.any_eq_true.2 ⟨r, List.mem_of_getElem? hr, hpr⟩
    go_wp2
    go_ret
    rw [e1]
    exact ⟨rfl, H2.out⟩
  · have e1 : l.any p = false := List.any_eq_false.2 fun x hx => by rw [hn x hx]; simp
    go_wp2
    go_ret
    rw [e1]
    exact ⟨rfl, H2.out⟩
set_option maxHeartbeats 1600000 in
theorem index_stmts (g : Nat) (lb : Array Value) (eg : ∀ args w, (callFunc g args).run Try.prog w = .ok (.enter g args) w) (p : Stmt → Bool) (A : Option Addr) (c : Nat) (l : List Stmt) (hC : PFragcheckChecks.k32.C w0 A l.length l) (h : S w0 w R) (hp : Tells PFragcheckChecks.k32 w0 R g lb l p) :
    Calls Try.prog 98 #[.slice A l.length c, .func (.func g) #[] lb] w fun e w' => ∃ i : Int, e = .returned (.int .i64 i) ∧ S w0 w' R ∧ Place p l i := by
  have H := Lib.hid (And.intro h (And.intro hC hp))
  have hl : l.length ≤ 9223372036854775807 := hC.2.1
  clear h hC hp
  go_enter Try.func98, Try.ntmps98
  go_wp2
  go_loopw [5, 8] (fun _ i wr => ∃ x : Int, 0 ≤ x ∧ x ≤ l.length ∧ i = .int .i64 x ∧ Hid (S w0 wr R) ∧ Hid (∀ y ∈ l.take x.toNat, p y = false)) (fun _ i _ => l.length - (intOf i).toNat)
  case atStart => exact ⟨0, Int.le_refl _, by omega, rfl, Lib.hid H.out.1, Lib.hid (by simp)⟩
  case round =>
    obtain ⟨x, hx0, hx1, rfl, HS, HN⟩ := hrel
    by_cases hlt : x < l.length
    · obtain ⟨ad, cs, rfl, hcl, hK, hcell0⟩ := Kd.C_get H.out.2.1 PFragcheckChecks.z32 x hx0 hlt
      have hcell : ∀ j u, cs[j]? = some u → w0.cell? (ad.add (x.toNat * 5 + j)) = some u := hcell0
      clear hcell0
      have HR := Lib.hid (getD_mem l PFragcheckChecks.z32 x hx0 hlt)
      have hcall := H.out.2.2 wr _ HS.out (List.mem_of_getElem? HR.out) _ hK
      obtain ⟨A2, c2, A3, c3, A4, c4, rfl, -⟩ := PFragcheckChecks.k32_open (id hK)
      generalize l.getD x.toNat PFragcheckChecks.z32 = r at *
      have d0 : wr.cell? (ad.add (x.toNat * 5)) = some (.int .i64 r.f0) := pw_cell_below HS.out.below (hcell 0 _ rfl)
      have d1 : wr.cell? ⟨(ad.add (x.toNat * 5)).block, (ad.add (x.toNat * 5)).off + 1, none⟩ = some (.string r.f1) := by rw [← add_field _ _ 1 (by omega)]; exact pw_cell_below HS.out.below (hcell 1 _ rfl)
      have d2 : wr.cell? ⟨(ad.add (x.toNat * 5)).block, (ad.add (x.toNat * 5)).off + 2, none⟩ = some (.slice A2 r.f2.length c2) := by rw [← add_field _ _ 2 (by omega)]; exact pw_cell_below HS.out.below (hcell 2 _ rfl)
      have d3 : wr.cell? ⟨(ad.add (x.toNat * 5)).block, (ad.add (x.toNat * 5)).off + 3, none⟩ = some (.slice A3 r.f3.length c3) := by rw [← add_field _ _ 3 (by omega)]; exact pw_cell_below HS.out.below (hcell 3 _ rfl)
      have d4 : wr.cell? ⟨(ad.add (x.toNat * 5)).block, (ad.add (x.toNat * 5)).off + 4, none⟩ = some (.slice A4 r.f4.length c4) := by rw [← add_field _ _ 4 (by omega)]; exact pw_cell_below HS.out.below (hcell 4 _ rfl)
      clear hcell hK hcl
      have p126 := eq_true hx0
      have q126 : (x < (l.length : Int)) = True := eq_true hlt
      cases hq : p r with
      | true =>
        rw [hq] at hcall
        have HQ := Lib.hid hq
        clear hq
        go_wp2_with (go_at_fn g; refine hcall.mono ?_; rintro e w' ⟨rfl, hb'⟩)
        go_ret
        exact ⟨x, rfl, hb', .inl ⟨x.toNat, r, by omega, HR.out, HQ.out, HN.out⟩⟩
      | false =>
        rw [hq] at hcall
        have HQ := Lib.hid hq
        clear hq
        go_wp2_with (go_at_fn g; refine hcall.mono ?_; rintro e w' ⟨rfl, hb'⟩)
        refine ⟨⟨x + 1, by omega, by omega, by go_num, Lib.hid hb', Lib.hid ?_⟩, by simp only [intOf]; omega⟩
        intro y hy
        have e1 : (x + 1).toNat = x.toNat + 1 := by omega
        rw [e1, List.take_add_one, HR.out] at hy
        rcases List.mem_append.1 hy with hy | hy
        · exact HN.out y hy
        · simp at hy
          rw [hy]; exact HQ.out
    · go_wp2
      go_ret
      exact ⟨_, rfl, HS.out, .inr ⟨rfl, by have h := HN.out; rwa [List.take_of_length_le (by omega)] at h⟩⟩
theorem contains_stmts (g : Nat) (lb : Array Value) (eg : ∀ args w, (callFunc g args).run Try.prog w = .ok (.enter g args) w) (p : Stmt → Bool) (A : Option Addr) (c : Nat) (l : List Stmt) (hC : PFragcheckChecks.k32.C w0 A l.length l) (h : S w0 w R) (hp : Tells PFragcheckChecks.k32 w0 R g lb l p) :
    Calls Try.prog 57 #[.slice A l.length c, .func (.func g) #[] lb] w fun e w' => e = .returned (.bool (l.any p)) ∧ S w0 w' R := by
  have hi := index_stmts g lb eg p A c l hC h hp
  clear h hC hp
  go_enter Try.func57, Try.ntmps57
  go_wp2_with fail
  refine hi.mono ?_
  rintro e w' ⟨i, rfl, h2, h3⟩
  have H2 := Lib.hid h2
  rcases h3 with ⟨k, r, rfl, hr, hpr, -⟩ | ⟨rfl, hn⟩
  · have e1 : l.any p = true := List.any_eq_true.2 ⟨r, List.mem_of_getElem? hr, hpr⟩
    go_wp2
    go_ret
    rw [e1]
    exact ⟨rfl, H2.out⟩
  · have e1 : l.any p = false := List.any_eq_false.2 fun x hx => by rw [hn x hx]; simp
    go_wp2
    go_ret
    rw [e1]
    exact ⟨rfl, H2.out⟩
set_option maxHeartbeats 1600000 in
theorem index_funcs (g : Nat) (lb : Array Value) (eg : ∀ args w, (callFunc g args).run Try.prog w = .ok (.enter g args) w) (p : Func → Bool) (A : Option Addr) (c : Nat) (l : List Func) (hC : PFragcheckChecks.k34.C w0 A l.length l) (h : S w0 w R) (hp : Tells PFragcheckChecks.k34 w0 R g lb l p) :
    Calls Try.prog 38 #[.slice A l.length c, .func (.func g) #[] lb] w fun e w' => ∃ i : Int, e = .returned (.int .i64 i) ∧ S w0 w' R ∧ Place p l i := by
  have H := Lib.hid (And.intro h (And.intro hC hp))
  have hl : l.length ≤ 9223372036854775807 := hC.2.1
  clear h hC hp
  go_enter Try.func38, Try.ntmps38
  go_wp2
  go_loopw [5, 8] (fun _ i wr => ∃ x : Int, 0 ≤ x ∧ x ≤ l.length ∧ i = .int .i64 x ∧ Hid (S w0 wr R) ∧ Hid (∀ y ∈ l.take x.toNat, p y = false)) (fun _ i _ => l.length - (intOf i).toNat)
  case atStart => exact ⟨0, Int.le_refl _, by omega, rfl, Lib.hid H.out.1, Lib.hid (by simp)⟩
  case round =>
    obtain ⟨x, hx0, hx1, rfl, HS, HN⟩ := hrel
    by_cases hlt : x < l.length
    · obtain ⟨ad, cs, rfl, hcl, hK, hcell0⟩ := Kd.C_get H.out.2.1 PFragcheckChecks.z34 x hx0 hlt
      have hcell : ∀ j u, cs[j]? = some u → w0.cell? (ad.add (x.toNat * 2 + j)) = some u := hcell0
      clear hcell0
      have HR := Lib.hid (getD_mem l PFragcheckChecks.z34 x hx0 hlt)
      have hcall := H.out.2.2 wr _ HS.out (List.mem_of_getElem? HR.out) _ hK
      obtain ⟨A1, c1, rfl, -⟩ := PFragcheckChecks.k34_open (id hK)
      generalize l.getD x.toNat PFragcheckChecks.z34 = r at *
      have d0 : wr.cell? (ad.add (x.toNat * 2)) = some (.string r.f0) := pw_cell_below HS.out.below (hcell 0 _ rfl)
      have d1 : wr.cell? ⟨(ad.add (x.toNat * 2)).block, (ad.add (x.toNat * 2)).off + 1, none⟩ = some (.slice A1 r.f1.length c1) := by rw [← add_field _ _ 1 (by omega)]; exact pw_cell_below HS.out.below (hcell 1 _ rfl)
      clear hcell hK hcl
      have p126 := eq_true hx0
      have q126 : (x < (l.length : Int)) = True := eq_true hlt
      cases hq : p r with
      | true =>
        rw [hq] at hcall
        have HQ := Lib.hid hq
        clear hq
        go_wp2_with (go_at_fn g; refine hcall.mono ?_; rintro e w' ⟨rfl, hb'⟩)
        go_ret
        exact ⟨x, rfl, hb', .inl ⟨x.toNat, r, by omega, HR.out, HQ.out, HN.out⟩⟩
      | false =>
        rw [hq] at hcall
        have HQ := Lib.hid hq
        clear hq
        go_wp2_with (go_at_fn g; refine hcall.mono ?_; rintro e w' ⟨rfl, hb'⟩)
        refine ⟨⟨x + 1, by omega, by omega, by go_num, Lib.hid hb', Lib.hid ?_⟩, by simp only [intOf]; omega⟩
        intro y hy
        have e1 : (x + 1).toNat = x.toNat + 1 := by omega
        rw [e1, List.take_add_one, HR.out] at hy
        rcases List.mem_append.1 hy with hy | hy
        · exact HN.out y hy
        · simp at hy
          rw [hy]; exact HQ.out
    · go_wp2
      go_ret
      exact ⟨_, rfl, HS.out, .inr ⟨rfl, by have h := HN.out; rwa [List.take_of_length_le (by omega)] at h⟩⟩
theorem contains_funcs (g : Nat) (lb : Array Value) (eg : ∀ args w, (callFunc g args).run Try.prog w = .ok (.enter g args) w) (p : Func → Bool) (A : Option Addr) (c : Nat) (l : List Func) (hC : PFragcheckChecks.k34.C w0 A l.length l) (h : S w0 w R) (hp : Tells PFragcheckChecks.k34 w0 R g lb l p) :
    Calls Try.prog 30 #[.slice A l.length c, .func (.func g) #[] lb] w fun e w' => e = .returned (.bool (l.any p)) ∧ S w0 w' R := by
  have hi := index_funcs g lb eg p A c l hC h hp
  clear h hC hp
  go_enter Try.func30, Try.ntmps30
  go_wp2_with fail
  refine hi.mono ?_
  rintro e w' ⟨i, rfl, h2, h3⟩
  have H2 := Lib.hid h2
  rcases h3 with ⟨k, r, rfl, hr, hpr, -⟩ | ⟨rfl, hn⟩
  · have e1 : l.any p = true := List.any_eq_true.2 ⟨r, List.mem_of_getElem? hr, hpr⟩
    go_wp2
    go_ret
    rw [e1]
    exact ⟨rfl, H2.out⟩
  · have e1 : l.any p = false := List.any_eq_false.2 fun x hx => by rw [hn x hx]; simp
    go_wp2
    go_ret
    rw [e1]
    exact ⟨rfl, H2.out⟩
end Go.Proofs.Ytbjddomocggjmaa.Fc
