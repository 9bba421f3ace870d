/- fragcheck.fits, walked. -/
import Derived.Test.YtbjddomocggjmaaFcI
import Derived.Test.YtbjddomocggjmaaFcS
import Derived.WalkMore
import Derived.IntWalk
namespace Go.Proofs.Ytbjddomocggjmaa.Fc
open Go.RowKit Go.ChangeShapes Go.WideShapes Go.Proofs.Ytbjddomocggjmaa.Sep
open Go.Proofs.YtbjddomocggjmaaW.PrintWords
variable {w0 w : World} {R : HP}

/-- A letter and a star. -/
def starB (p : List UInt8) : Bool := p.length == 2 && p.getD 1 0 == 42
def sortOf (a : Arg) : UInt8 := if a.f0 then 115 else 110
def fitsB : List UInt8 → List UInt8 → Bool
  | [], p => p.isEmpty || starB p
  | c :: r, p => if p.isEmpty || p.getD 0 0 != c then false else if starB p then fitsB r p else fitsB r (p.drop 1)
theorem bt_getD (s : ByteArray) (i : Nat) (h : i < s.size) : bt s i = ((s.data.toList.getD i 0).toNat : Int) := by
  have h2 : (i : Int).toNat < s.size := h
  rw [← bt_at s i h2]
  have h3 : i < s.data.toList.length := by simpa using h
  rw [List.getD_eq_getElem?_getD, List.getElem?_eq_getElem h3]
  rfl
theorem size_list (s : ByteArray) : s.data.toList.length = s.size := by simp
theorem star_bt (s : ByteArray) : starB s.data.toList = (s.size == 2 && bt s 1 == 42) := by
  unfold starB
  rw [size_list]
  by_cases h : s.size = 2
  · have h1 := bt_getD s 1 (by omega)
    have h2 : bt s 1 = ((s.data.toList.getD 1 0).toNat : Int) := h1
    rw [h2, Bool.eq_iff_iff]
    simp only [Bool.and_eq_true, beq_iff_eq]
    constructor
    · rintro ⟨a, b⟩; exact ⟨a, by rw [b]; rfl⟩
    · rintro ⟨a, b⟩; exact ⟨a, UInt8.toNat_inj.1 (by show _ = 42; omega)⟩
  · have h1 : (s.size == 2) = false := by simpa using h
    rw [h1]; rfl
theorem head_ne (s : ByteArray) (h : 0 < s.size) (c : UInt8) : (s.data.toList.getD 0 0 != c) = (bt s 0 != (c.toNat : Int)) := by
  have h2 : bt s 0 = ((s.data.toList.getD 0 0).toNat : Int) := bt_getD s 0 h
  rw [h2, Bool.eq_iff_iff, bne_iff_ne, bne_iff_ne]
  constructor
  · intro a b; exact a (UInt8.toNat_inj.1 (by omega))
  · intro a b; exact a (by rw [b])
theorem ext_list (s : ByteArray) : (s.extract 1 s.size).data.toList = s.data.toList.drop 1 := by
  simp only [ByteArray.data_extract, Array.toList_extract]
  rw [List.extract_eq_take_drop, List.take_of_length_le (by simp)]
set_option maxHeartbeats 3000000 in
set_option maxRecDepth 100000 in
theorem fits_calls (A : Option Addr) (c : Nat) (l : List Arg) (p : ByteArray) (h : S w0 w R) (hC : CA w0 A l) :
    Calls Try.prog 60 #[.slice A l.length c, .string p] w fun e w' => e = .returned (.bool (fitsB (l.map sortOf) p.data.toList)) ∧ S w0 w' R := by
  have H := Lib.hid (And.intro h hC)
  have hl : l.length ≤ 9223372036854775807 := hC.2.1
  clear h hC
  go_enter Try.func60, Try.ntmps60
  go_wp2
  go_step3
  go_wp2
  go_step3
  go_wp2
  go_loopw [1, 10] (fun v i wr => ∃ (x : Int) (q : ByteArray), 0 ≤ x ∧ x ≤ l.length ∧ v = .string q ∧ i = .int .i64 x ∧ Hid (S w0 wr R) ∧ Hid (fitsB ((l.drop x.toNat).map sortOf) q.data.toList = fitsB (l.map sortOf) p.data.toList)) (fun _ i _ => l.length - (intOf i).toNat)
  case atStart => exact ⟨0, p, Int.le_refl _, by omega, rfl, rfl, Lib.hid H.out.1, Lib.hid rfl⟩
  case round =>
    obtain ⟨x, q, hx0, hx1, rfl, rfl, HS, HN⟩ := hrel
    by_cases hlt : x < l.length
    · obtain ⟨ad, cs, rfl, hcl, hK, hcell0⟩ := Kd.C_get H.out.2 PFragcheckChecks.z73 x hx0 hlt
      have hcell : ∀ j u, cs[j]? = some u → w0.cell? (ad.add (x.toNat * 3 + j)) = some u := hcell0
      clear hcell0
      have HR := Lib.hid (getD_mem l PFragcheckChecks.z73 x hx0 hlt)
      obtain rfl := PFragcheckChecks.k73_open (id hK)
      generalize l.getD x.toNat PFragcheckChecks.z73 = r at *
      have d0 : wr.cell? (ad.add (x.toNat * 3)) = some (.bool r.f0) := pw_cell_below HS.out.below (hcell 0 _ rfl)
      have d1 : wr.cell? ⟨(ad.add (x.toNat * 3)).block, (ad.add (x.toNat * 3)).off + 1, none⟩ = some (.int .i64 r.f1) := by rw [← add_field _ _ 1 (by omega)]; exact pw_cell_below HS.out.below (hcell 1 _ rfl)
      have d2 : wr.cell? ⟨(ad.add (x.toNat * 3)).block, (ad.add (x.toNat * 3)).off + 2, none⟩ = some (.string r.f2) := by rw [← add_field _ _ 2 (by omega)]; exact pw_cell_below HS.out.below (hcell 2 _ rfl)
      clear hcell hK hcl
      have p126 := eq_true hx0
      have q126 : (x < (l.length : Int)) = True := eq_true hlt
      have HD : Hid ((l.drop x.toNat).map sortOf = sortOf r :: (l.drop (x + 1).toNat).map sortOf) := Lib.hid (by
        have e1 : (x + 1).toNat = x.toNat + 1 := by omega
        obtain ⟨hk, ek⟩ := List.getElem?_eq_some_iff.1 HR.out
        rw [e1, List.drop_eq_getElem_cons hk, List.map_cons, ek])
      have HF : Hid (fitsB (sortOf r :: (l.drop (x + 1).toNat).map sortOf) q.data.toList = fitsB (l.map sortOf) p.data.toList) := Lib.hid (by rw [← HD.out]; exact HN.out)
      have HQ : Hid (S w0 (wr.alloc (.cells #[.bool r.f0, .int .i64 r.f1, .string r.f2] 73)) R) := Lib.hid (HS.out.alloc _).drop
      by_cases h0 : q.size = 0
      · have HZ : Hid (fitsB (l.map sortOf) p.data.toList = false) := Lib.hid (by
          rw [← HF.out]
          have : q.data.toList.isEmpty = true := by rw [List.isEmpty_iff_length_eq_zero, size_list]; exact h0
          rw [fitsB, this]; rfl)
        have b0 : ((q.size : Int) == 0) = true := beq_iff_eq.mpr (by omega)
        clear h0
        cases hf : r.f0 with
        | true =>
          rw [hf] at d0 HQ
          clear hf
          go_wp2
          rw [Exit.noGoto_ret]
          go_ret
          exact ⟨by rw [HZ.out]; rfl, HQ.out⟩
        | false =>
          rw [hf] at d0 HQ
          clear hf
          go_wp2
          rw [Exit.noGoto_ret]
          go_ret
          exact ⟨by rw [HZ.out]; rfl, HQ.out⟩
      have b0 : ((q.size : Int) == 0) = false := beq_eq_false_iff_ne.mpr (by omega)
      have hpos : 0 < q.size := by omega
      have HE : Hid (q.data.toList.isEmpty = false) := Lib.hid (by
        have h1 := size_list q
        cases hq : q.data.toList with
        | nil => rw [hq] at h1; simp at h1; omega
        | cons a b => rfl)
      have HH := Lib.hid (head_ne q hpos (sortOf r))
      have HS2 := Lib.hid (star_bt q)
      have HX := Lib.hid (ext_list q)
      have hx6 : ∀ h : 0 < q.size, ((q[0]'h).toNat : Int) = bt q 0 := bt_at q 0
      have qi6 : (0 < (q.size : Int)) = True := eq_true (by omega)
      have q6 := eq_true hpos
      have qj6 : (1 ≤ (q.size : Int)) = True := eq_true (by omega)
      have qk6 : (1 ≤ q.size) = True := eq_true (by omega)
      clear h0
      cases hf : r.f0 with
      | true =>
        have HC : Hid ((sortOf r).toNat = 115) := Lib.hid (by unfold sortOf; rw [hf]; rfl)
        rw [hf] at d0 HQ
        clear hf
        by_cases hh : bt q 0 = 115
        · have b1 : (bt q 0 != 115) = false := by rw [hh]; rfl
          have HH2 : Hid ((q.data.toList.isEmpty || q.data.toList.getD 0 0 != sortOf r) = false) := Lib.hid (by rw [HE.out, HH.out, HC.out, hh]; rfl)
          clear hh
          by_cases h2 : q.size = 2
          · have b2 : ((q.size : Int) == 2) = true := beq_iff_eq.mpr (by omega)
            have hy6 : ∀ h : 1 < q.size, ((q[1]'h).toNat : Int) = bt q 1 := bt_at q 1
            have ri6 : (1 < (q.size : Int)) = True := eq_true (by omega)
            have r6 : (1 < q.size) = True := eq_true (by omega)
            have HS3 : Hid (starB q.data.toList = (bt q 1 == 42)) := Lib.hid (by rw [HS2.out, h2]; rfl)
            clear h2
            by_cases h3 : bt q 1 = 42
            · have b3 : (bt q 1 == 42) = true := beq_iff_eq.mpr h3
              have HW : Hid (fitsB ((l.drop (x + 1).toNat).map sortOf) q.data.toList = fitsB (l.map sortOf) p.data.toList) := Lib.hid (by
                rw [← HF.out, fitsB, HH2.out, HS3.out, b3]; rfl)
              clear h3
              go_wp2
              exact ⟨⟨x + 1, q, by omega, by omega, rfl, by go_num, HQ, HW⟩, by simp only [intOf]; omega⟩
            · have b3 : (bt q 1 == 42) = false := beq_eq_false_iff_ne.mpr h3
              have HW : Hid (fitsB ((l.drop (x + 1).toNat).map sortOf) (q.extract 1 q.size).data.toList = fitsB (l.map sortOf) p.data.toList) := Lib.hid (by
                rw [← HF.out, fitsB, HH2.out, HS3.out, b3, HX.out]; rfl)
              clear h3
              go_wp2
              exact ⟨⟨x + 1, _, by omega, by omega, rfl, by go_num, HQ, HW⟩, by simp only [intOf]; omega⟩
          · have b2 : ((q.size : Int) == 2) = false := beq_eq_false_iff_ne.mpr (by omega)
            have HS3 : Hid (starB q.data.toList = false) := Lib.hid (by
              rw [HS2.out]
              have : (q.size == 2) = false := by simpa using h2
              rw [this]; rfl)
            have HW : Hid (fitsB ((l.drop (x + 1).toNat).map sortOf) (q.extract 1 q.size).data.toList = fitsB (l.map sortOf) p.data.toList) := Lib.hid (by
              rw [← HF.out, fitsB, HH2.out, HS3.out, HX.out]; rfl)
            clear h2
            go_wp2
            exact ⟨⟨x + 1, _, by omega, by omega, rfl, by go_num, HQ, HW⟩, by simp only [intOf]; omega⟩
        · have b1 : (bt q 0 != 115) = true := by simpa using hh
          have HZ : Hid (fitsB (l.map sortOf) p.data.toList = false) := Lib.hid (by
            rw [← HF.out, fitsB, HE.out, HH.out, HC.out]
            have : (bt q 0 != ((115 : Nat) : Int)) = true := b1
            rw [this]; rfl)
          clear hh
          go_wp2
          rw [Exit.noGoto_ret]
          go_ret
          exact ⟨by rw [HZ.out]; rfl, HQ.out⟩
      | false =>
        have HC : Hid ((sortOf r).toNat = 110) := Lib.hid (by unfold sortOf; rw [hf]; rfl)
        rw [hf] at d0 HQ
        clear hf
        by_cases hh : bt q 0 = 110
        · have b1 : (bt q 0 != 110) = false := by rw [hh]; rfl
          have HH2 : Hid ((q.data.toList.isEmpty || q.data.toList.getD 0 0 != sortOf r) = false) := Lib.hid (by rw [HE.out, HH.out, HC.out, hh]; rfl)
          clear hh
          by_cases h2 : q.size = 2
          · have b2 : ((q.size : Int) == 2) = true := beq_iff_eq.mpr (by omega)
            have hy6 : ∀ h : 1 < q.size, ((q[1]'h).toNat : Int) = bt q 1 := bt_at q 1
            have ri6 : (1 < (q.size : Int)) = True := eq_true (by omega)
            have r6 : (1 < q.size) = True := eq_true (by omega)
            have HS3 : Hid (starB q.data.toList = (bt q 1 == 42)) := Lib.hid (by rw [HS2.out, h2]; rfl)
            clear h2
            by_cases h3 : bt q 1 = 42
            · have b3 : (bt q 1 == 42) = true := beq_iff_eq.mpr h3
              have HW : Hid (fitsB ((l.drop (x + 1).toNat).map sortOf) q.data.toList = fitsB (l.map sortOf) p.data.toList) := Lib.hid (by
                rw [← HF.out, fitsB, HH2.out, HS3.out, b3]; rfl)
              clear h3
              go_wp2
              exact ⟨⟨x + 1, q, by omega, by omega, rfl, by go_num, HQ, HW⟩, by simp only [intOf]; omega⟩
            · have b3 : (bt q 1 == 42) = false := beq_eq_false_iff_ne.mpr h3
              have HW : Hid (fitsB ((l.drop (x + 1).toNat).map sortOf) (q.extract 1 q.size).data.toList = fitsB (l.map sortOf) p.data.toList) := Lib.hid (by
                rw [← HF.out, fitsB, HH2.out, HS3.out, b3, HX.out]; rfl)
              clear h3
              go_wp2
              exact ⟨⟨x + 1, _, by omega, by omega, rfl, by go_num, HQ, HW⟩, by simp only [intOf]; omega⟩
          · have b2 : ((q.size : Int) == 2) = false := beq_eq_false_iff_ne.mpr (by omega)
            have HS3 : Hid (starB q.data.toList = false) := Lib.hid (by
              rw [HS2.out]
              have : (q.size == 2) = false := by simpa using h2
              rw [this]; rfl)
            have HW : Hid (fitsB ((l.drop (x + 1).toNat).map sortOf) (q.extract 1 q.size).data.toList = fitsB (l.map sortOf) p.data.toList) := Lib.hid (by
              rw [← HF.out, fitsB, HH2.out, HS3.out, HX.out]; rfl)
            clear h2
            go_wp2
            exact ⟨⟨x + 1, _, by omega, by omega, rfl, by go_num, HQ, HW⟩, by simp only [intOf]; omega⟩
        · have b1 : (bt q 0 != 110) = true := by simpa using hh
          have HZ : Hid (fitsB (l.map sortOf) p.data.toList = false) := Lib.hid (by
            rw [← HF.out, fitsB, HE.out, HH.out, HC.out]
            have : (bt q 0 != ((110 : Nat) : Int)) = true := b1
            rw [this]; rfl)
          clear hh
          go_wp2
          rw [Exit.noGoto_ret]
          go_ret
          exact ⟨by rw [HZ.out]; rfl, HQ.out⟩
    · have hx : x = l.length := by omega
      have HE2 : Hid (fitsB (l.map sortOf) p.data.toList = (q.data.toList.isEmpty || starB q.data.toList)) := Lib.hid (by
        rw [← HN.out, List.drop_of_length_le (by omega)]; rfl)
      have HS2 := Lib.hid (star_bt q)
      have hlt' : (x < (l.length : Int)) = False := eq_false hlt
      by_cases h0 : q.size = 0
      · have hq : q.data.toList = [] := List.length_eq_zero_iff.1 ((size_list q).trans h0)
        have b0 : (q.toList == ([] : List UInt8)) = true := beq_iff_eq.mpr (by rw [Lib.toList_data, hq])
        have HZ : Hid (fitsB (l.map sortOf) p.data.toList = true) := Lib.hid (by rw [HE2.out, hq]; rfl)
        clear h0 hq
        go_wp2
        go_ret
        exact ⟨by rw [HZ.out]; rfl, HS.out⟩
      have hne : q.data.toList ≠ [] := fun e => h0 ((size_list q).symm.trans (by rw [e]; rfl))
      have b0 : (q.toList == ([] : List UInt8)) = false := beq_eq_false_iff_ne.mpr (by rw [Lib.toList_data]; exact hne)
      have HE3 : Hid (q.data.toList.isEmpty = false) := Lib.hid (by simpa using hne)
      clear hne
      by_cases h2 : q.size = 2
      · have b2 : ((q.size : Int) == 2) = true := beq_iff_eq.mpr (by omega)
        have hy6 : ∀ h : 1 < q.size, ((q[1]'h).toNat : Int) = bt q 1 := bt_at q 1
        have ri6 : (1 < (q.size : Int)) = True := eq_true (by omega)
        have r6 : (1 < q.size) = True := eq_true (by omega)
        have HZ : Hid (fitsB (l.map sortOf) p.data.toList = (bt q 1 == 42)) := Lib.hid (by rw [HE2.out, HE3.out, HS2.out, h2]; rfl)
        clear h2 h0
        go_wp2
        go_ret
        exact ⟨by rw [HZ.out]; rfl, HS.out⟩
      · have b2 : ((q.size : Int) == 2) = false := beq_eq_false_iff_ne.mpr (by omega)
        have HZ : Hid (fitsB (l.map sortOf) p.data.toList = false) := Lib.hid (by
          rw [HE2.out, HE3.out, HS2.out]
          have : (q.size == 2) = false := by simpa using h2
          rw [this]; rfl)
        clear h2 h0
        go_wp2
        go_ret
        exact ⟨by rw [HZ.out]; rfl, HS.out⟩
end Go.Proofs.Ytbjddomocggjmaa.Fc
