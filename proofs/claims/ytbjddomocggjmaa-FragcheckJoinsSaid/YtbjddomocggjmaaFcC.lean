/- fragcheck.Check, walked. -/
import Derived.Test.YtbjddomocggjmaaFcG
import Derived.Laws.EntriesVeiled
namespace Go.Proofs.Ytbjddomocggjmaa.Fc
open Go.RowKit Go.ChangeShapes Go.WideShapes Go.Proofs.Ytbjddomocggjmaa.Sep
open Go.Proofs.YtbjddomocggjmaaW.PrintWords
variable {w0 w : World} {R : HP}

def namesOf (l : List Func) : List (List UInt8) := l.map fun f => f.f0.data.toList
def errI (l : List Func) : Int :=
  if shapedB l then (if distinctB (namesOf l) && l.all fun f => allB (knownB (namesOf l)) f.f1 then (if l.all fun f => allB typedB f.f1 then 0 else 12) else 7) else 1
theorem names_take (l : List Func) (x : Int) (f : Func) (h0 : 0 ≤ x) (h : l[x.toNat]? = some f) : namesOf (l.take x.toNat) ++ [f.f0.data.toList] = namesOf (l.take (x + 1).toNat) := by
  have e : (x + 1).toNat = x.toNat + 1 := by omega
  rw [e, List.take_add_one, h]
  simp [namesOf]
set_option maxHeartbeats 6000000 in
set_option maxRecDepth 100000 in
theorem check_calls (A : Option Addr) (c : Nat) (l : List Func) (h : S w0 w R) (hC : CF w0 A l) (ho : ∀ x ∈ l, okF x) :
    Calls Try.prog 12 #[.slice A l.length c] w fun e w' => e = .returned (.int .i64 (errI l)) ∧ S w0 w' R := by
  have hl : l.length ≤ 9223372036854775807 := hC.2.1
  have HS := Lib.hid (shaped_calls A c l h hC ho)
  have HC := Lib.hid (And.intro hC ho)
  clear h hC ho
  cases hs : shapedB l with
  | false =>
    have e1 : errI l = 1 := by unfold errI; rw [hs]; rfl
    rw [hs] at HS
    rw [e1]
    clear hs e1
    go_enter Try.func12, Try.ntmps12
    go_wp2_with fail
    refine HS.out.mono ?_
    rintro e w1 ⟨rfl, h1⟩
    have H1 := Lib.hid h1
    clear h1
    go_wp2
    go_ret
    exact ⟨rfl, H1.out⟩
  | true =>
    have hl2 : l.length ≤ 4096 := by
      unfold shapedB at hs
      have := (Bool.and_eq_true _ _ ▸ hs).1
      simpa using this
    rw [hs] at HS
    have HE : Hid (errI l = if distinctB (namesOf l) && l.all fun f => allB (knownB (namesOf l)) f.f1 then (if l.all fun f => allB typedB f.f1 then 0 else 12) else 7) := Lib.hid (by unfold errI; rw [hs]; rfl)
    clear hs
    have hmm := @run_makeMap Try.prog
    go_enter Try.func12, Try.ntmps12
    go_wp2_with fail
    refine HS.out.mono ?_
    rintro e w1 ⟨rfl, h1⟩
    have em : (w1.alloc (.map #[] 0)).heap.size = w1.heap.size + 1 := by simp
    have h2 := (st_made h1).alloc (.cells #[.map (some w1.heap.size)] 75)
    rw [em] at h2
    have H1 := Lib.hid h2
    clear h1 h2 em
    go_wp2
    generalize hmb : w1.heap.size = mb at *
    go_loopw [13] (fun i wr => ∃ x : Int, 0 ≤ x ∧ x ≤ l.length ∧ i = .int .i64 x ∧ Hid (S w0 wr (Blk (mb + 1) (.cells #[.map (some mb)] 75) • (SetP mb (namesOf (l.take x.toNat)) • R)))) (fun i _ => l.length - (intOf i).toNat)
    case atStart => exact ⟨0, Int.le_refl _, by omega, rfl, H1⟩
    case round =>
      obtain ⟨x, hx0, hx1, rfl, HW⟩ := hrel
      by_cases hlt : x < l.length
      · obtain ⟨ad, cs, rfl, hcl, hK, hcell0⟩ := Kd.C_get HC.out.1 PFragcheckChecks.z34 x hx0 hlt
        have hcell : ∀ j u, cs[j]? = some u → w0.cell? (ad.add (x.toNat * 2 + j)) = some u := hcell0
        clear hcell0
        have HR := Lib.hid (getD_mem l PFragcheckChecks.z34 x hx0 hlt)
        obtain ⟨A1, c1, rfl, -⟩ := PFragcheckChecks.k34_open (id hK)
        generalize l.getD x.toNat PFragcheckChecks.z34 = r at *
        have d0 : wr.cell? (ad.add (x.toNat * 2)) = some (.string r.f0) := pw_cell_below HW.out.below (hcell 0 _ rfl)
        have d1 : wr.cell? ⟨(ad.add (x.toNat * 2)).block, (ad.add (x.toNat * 2)).off + 1, none⟩ = some (.slice A1 r.f1.length c1) := by rw [← add_field _ _ 1 (by omega)]; exact pw_cell_below HW.out.below (hcell 1 _ rfl)
        clear hcell hK hcl
        have HZ : Hid (r.f0.size ≤ maxLen ∧ (namesOf (l.take x.toNat)).length < maxLen) := Lib.hid ⟨Nat.le_trans (HC.out.2 r (List.mem_of_getElem? HR.out)).1 (by decide), by
          simp only [namesOf, List.length_map, List.length_take, maxLen]; omega⟩
        have H2 := Lib.hid (HW.out.alloc (.cells #[.string r.f0, .slice A1 r.f1.length c1] 34))
        have e0 := H2.out.two.cell 0 rfl
        have p126 := eq_true hx0
        have q126 : (x < (l.length : Int)) = True := eq_true hlt
        have HN := Lib.hid (names_take l x r hx0 HR.out)
        go_wp2_with (at_mapUpdate; refine wpList_put rfl _ _ _ rfl rfl _ rfl rfl H2.out.drop.two HZ.out.1 HZ.out.2 ?_; intro w3 h3; rw [HN.out] at h3; have H3 := Lib.hid h3.two; clear h3)
        exact ⟨⟨x + 1, by omega, by omega, by go_num, H3⟩, by simp only [intOf]; omega⟩
      · have hx : x = l.length := by omega
        have hlt' : (x < (l.length : Int)) = False := eq_false hlt
        have HW2 : Hid (S w0 wr (Blk (mb + 1) (.cells #[.map (some mb)] 75) • (SetP mb (namesOf l) • R))) := Lib.hid (by have h := HW.out; rwa [List.take_of_length_le (by omega)] at h)
        have H4 := Lib.hid (HW2.out.alloc (.cells #[.func (.func 29) #[] #[.pointer (some ⟨mb + 1, 0, none⟩)]] 76))
        have e0 := H4.out.two.cell 0 rfl
        have hlen := (st_owns H4.out.drop.drop).len Try.underlying75 3
        have HQ : Hid (decide (Maps.size (setD (namesOf l)) < l.length) = !distinctB (namesOf l)) := Lib.hid (by
          rw [← setD_size, Bool.eq_iff_iff, decide_eq_true_iff, decide_eq_true_iff, show (namesOf l).length = l.length by simp [namesOf]])
        generalize Maps.size (setD (namesOf l)) = sz at *
        have HT2 := Lib.hid (fun (eg : ∀ args w, (callFunc 29 args).run Try.prog w = .ok (.enter 29 args) w) => check2_tells (w0 := w0) 29 wr.heap.size #[.pointer (some ⟨mb + 1, 0, none⟩)] eg (knownB (namesOf l)) (known_ok (mb + 1) mb (namesOf l) R) l HC.out.2)
        have HT3 := Lib.hid (fun (R : HP) => check3_tells (w0 := w0) (R := R) l HC.out.2)
        cases hd : distinctB (namesOf l) with
        | false =>
          have hq : decide (sz < l.length) = true := by rw [HQ.out, hd]; rfl
          have HE7 : Hid (errI l = 7) := Lib.hid (by rw [HE.out, hd]; rfl)
          clear hd hx HQ
          go_wp2
          go_ret
          exact ⟨by rw [HE7.out]; rfl, H4.out.drop.drop.drop⟩
        | true =>
          have hq : decide (sz < l.length) = false := by rw [HQ.out, hd]; rfl
          have HE2 : Hid (errI l = if (l.all fun f => allB (knownB (namesOf l)) f.f1) = true then (if (l.all fun f => allB typedB f.f1) = true then 0 else 12) else 7) := Lib.hid (by rw [HE.out, hd, Bool.true_and])
          clear hd hx HQ
          have eg1 : ∀ args w, (callFunc 29 args).run Try.prog w = .ok (.enter 29 args) w := enters_of Try.func29 (by kernel_rfl) rfl
          have eg2 : ∀ args w, (callFunc 31 args).run Try.prog w = .ok (.enter 31 args) w := enters_of Try.func31 (by kernel_rfl) rfl
          have eg3 : ∀ args w, (callFunc 33 args).run Try.prog w = .ok (.enter 33 args) w := enters_of Try.func33 (by kernel_rfl) rfl
          have HG := Lib.hid (And.intro eg1 (And.intro eg2 eg3))
          clear eg1 eg2 eg3
          have HK2 := Lib.hid (contains_funcs _ _ HG.out.2.1 _ A c l HC.out.1 H4.out (HT2.out HG.out.1))
          have HK3 := Lib.hid (fun (W : World) (R : HP) (h : S w0 W R) => contains_funcs _ _ HG.out.2.2 _ A c l HC.out.1 h (HT3.out R))
          rw [all_any] at HE2
          cases hk : (l.any fun f => !allB (knownB (namesOf l)) f.f1) with
          | true =>
            rw [hk] at HK2
            have HE7 : Hid (errI l = 7) := Lib.hid (by rw [HE2.out, hk]; rfl)
            clear hk
            go_wp2_with fail
            refine HK2.out.mono ?_
            rintro e w5 ⟨rfl, h5⟩
            have H5 := Lib.hid h5.drop.drop.drop
            clear h5
            go_wp2
            go_ret
            exact ⟨by rw [HE7.out]; rfl, H5.out⟩
          | false =>
            rw [hk] at HK2
            have HE3 : Hid (errI l = if (l.all fun f => allB typedB f.f1) = true then 0 else 12) := Lib.hid (by rw [HE2.out, hk]; rfl)
            clear hk
            rw [all_any] at HE3
            go_wp2_with fail
            refine HK2.out.mono ?_
            rintro e w5 ⟨rfl, h5⟩
            have H5 := Lib.hid h5.drop.drop.drop
            clear h5
            have HK4 := Lib.hid (HK3.out w5 R H5.out)
            cases ht : (l.any fun f => !allB typedB f.f1) with
            | true =>
              rw [ht] at HK4
              have HE7 : Hid (errI l = 12) := Lib.hid (by rw [HE3.out, ht]; rfl)
              clear ht
              go_wp2_with fail
              refine HK4.out.mono ?_
              rintro e w6 ⟨rfl, h6⟩
              have H6 := Lib.hid h6
              clear h6
              go_wp2
              go_ret
              exact ⟨by rw [HE7.out]; rfl, H6.out⟩
            | false =>
              rw [ht] at HK4
              have HE7 : Hid (errI l = 0) := Lib.hid (by rw [HE3.out, ht]; rfl)
              clear ht
              go_wp2_with fail
              refine HK4.out.mono ?_
              rintro e w6 ⟨rfl, h6⟩
              have H6 := Lib.hid h6
              clear h6
              go_wp2
              go_ret
              exact ⟨by rw [HE7.out]; rfl, H6.out⟩
end Go.Proofs.Ytbjddomocggjmaa.Fc
