/- The reference's Check, walked. -/
import Derived.Test.YtbjddomocggjmaaFcN
import Derived.Test.YtbjddomocggjmaaFcJ
namespace Go.Proofs.Ytbjddomocggjmaa.Fc
open Go.RowKit Go.ChangeShapes Go.WideShapes Go.Proofs.Ytbjddomocggjmaa.Sep
open Go.Proofs.YtbjddomocggjmaaW.PrintWords
variable {w0 w : World} {R : HP}

theorem find_before (p : Func → Bool) : ∀ (l : List Func) (k j : Nat), findN p l k = ((k + j : Nat) : Int) → ∀ y ∈ l.take j, p y = false
  | [], _, _, _ => fun y hy => by simp at hy
  | f :: r, k, 0, _ => fun y hy => by simp at hy
  | f :: r, k, j + 1, h => by
    unfold findN at h
    cases hp : p f with
    | true => rw [hp, if_pos rfl] at h; omega
    | false =>
      rw [hp, if_neg (by simp)] at h
      intro y hy
      rw [List.take_succ_cons] at hy
      rcases List.mem_cons.1 hy with rfl | hy
      · exact hp
      · exact find_before p r (k + 1) j (by rw [h]; congr 1; omega) y hy
theorem name_same (f g : Func) : nameB f.f0 g = (g.f0.data.toList == f.f0.data.toList) := by
  unfold nameB
  rw [Lib.toList_data, Lib.toList_data]
theorem find_at (l : List Func) (i : Nat) (f : Func) (h : l[i]? = some f) : findN (nameB f.f0) l 0 = (i : Int) ↔ ∀ y ∈ l.take i, nameB f.f0 y = false := by
  constructor
  · intro hf
    exact find_before _ l 0 i (by rw [hf, Nat.zero_add])
  · intro hn
    rw [find_hit (nameB f.f0) l 0 i f h (by rw [name_same]; simp) hn, Nat.zero_add]
theorem names_apart : ∀ l : List Func, distinctB (namesOf l) = true ↔ ∀ (i : Nat) (f : Func), l[i]? = some f → ∀ y ∈ l.take i, nameB f.f0 y = false
  | [] => by simp [namesOf, distinctB]
  | x :: r => by
    have ih := names_apart r
    have e : namesOf (x :: r) = x.f0.data.toList :: namesOf r := rfl
    rw [e, distinctB, Bool.and_eq_true, ih]
    constructor
    · rintro ⟨h1, h2⟩ i f hf y hy
      cases i with
      | zero => simp at hy
      | succ i =>
        rw [List.getElem?_cons_succ] at hf
        rw [List.take_succ_cons] at hy
        rcases List.mem_cons.1 hy with rfl | hy
        · rw [name_same]
          refine beq_eq_false_iff_ne.2 fun h => ?_
          have : (namesOf r).contains y.f0.data.toList = true := by
            rw [List.contains_iff_mem, h]
            exact List.mem_map.2 ⟨f, List.mem_of_getElem? hf, rfl⟩
          rw [this] at h1
          cases h1
        · exact h2 i f hf y hy
    · intro h
      refine ⟨?_, fun i f hf y hy => h (i + 1) f (by simpa using hf) y (by rw [List.take_succ_cons]; exact List.mem_cons_of_mem _ hy)⟩
      cases hc : (namesOf r).contains x.f0.data.toList with
      | false => rfl
      | true =>
        exfalso
        rw [List.contains_iff_mem] at hc
        obtain ⟨f, hf, hfn⟩ := List.mem_map.1 hc
        obtain ⟨i, hi⟩ := List.getElem?_of_mem hf
        have := h (i + 1) f (by simpa using hi) x (by simp)
        rw [name_same] at this
        have := beq_eq_false_iff_ne.1 this
        exact this hfn.symm
theorem names_first (l : List Func) : distinctB (namesOf l) = true ↔ ∀ (i : Nat) (f : Func), l[i]? = some f → findN (nameB f.f0) l 0 = (i : Int) := by
  rw [names_apart]
  exact ⟨fun h i f hf => (find_at l i f hf).2 (h i f hf), fun h i f hf => (find_at l i f hf).1 (h i f hf)⟩
theorem err_one {l : List Func} (h : shapedB l = false) : errI l = 1 := by unfold errI; rw [h]; rfl
theorem err_find {l : List Func} (hs : shapedB l = true) {i : Nat} {f : Func} (hf : l[i]? = some f) (hn : findN (nameB f.f0) l 0 ≠ (i : Int)) : errI l = 7 := by
  unfold errI
  have : distinctB (namesOf l) = false := Bool.eq_false_iff.2 fun h => hn ((names_first l).1 h i f hf)
  rw [hs, if_pos rfl, this]
  rfl
theorem err_known {l : List Func} (hs : shapedB l = true) {f : Func} (hf : f ∈ l) (hn : allB (knownB (namesOf l)) f.f1 = false) : errI l = 7 := by
  unfold errI
  have : (l.all fun f => allB (knownB (namesOf l)) f.f1) = false := List.all_eq_false.2 ⟨f, hf, by rw [hn]; simp⟩
  rw [hs, if_pos rfl, this, Bool.and_false]
  rfl
theorem err_rest {l : List Func} (hs : shapedB l = true) (h : ∀ (i : Nat) (f : Func), i < l.length → l[i]? = some f → findN (nameB f.f0) l 0 = (i : Int) ∧ allB (knownB (namesOf l)) f.f1 = true) : errI l = if (l.all fun f => allB typedB f.f1) = true then 0 else 12 := by
  unfold errI
  have h1 : distinctB (namesOf l) = true := (names_first l).2 fun i f hf => (h i f (List.getElem?_eq_some_iff.1 hf).1 hf).1
  have h2 : (l.all fun f => allB (knownB (namesOf l)) f.f1) = true := List.all_eq_true.2 fun f hf => by
    obtain ⟨i, hi⟩ := List.getElem?_of_mem hf
    exact (h i f (List.getElem?_eq_some_iff.1 hi).1 hi).2
  rw [hs, if_pos rfl, h1, h2]
  rfl
theorem shaped18_calls (A : Option Addr) (c : Nat) (l : List Func) (h : S w0 w R) (hC : CF w0 A l) (hc : l.length ≤ c) (hl : l.length ≤ M) (ho : ∀ x ∈ l, okF x) :
    Calls Try.prog 35 #[.slice A l.length c] w fun e w' => e = .returned (.bool (shapedB l)) ∧ S w0 w' R := by
  obtain ⟨k, hk⟩ := (shaped_f l hl ho).rounds
  exact (PFragcheckChecks.spandrelref18_Shaped.calls k A c l _ w (Kd.C_below hC h.below) hc hk).mono fun _ _ ⟨h1, h2⟩ => ⟨h1, st_after h h2⟩
theorem find20_calls (A : Option Addr) (c : Nat) (l : List Func) (nm : ByteArray) (h : S w0 w R) (hC : CF w0 A l) (hc : l.length ≤ c) (hl : l.length ≤ M) :
    Calls Try.prog 15 #[.slice A l.length c, .string nm] w fun e w' => e = .returned (.int .i64 (findN (nameB nm) l 0)) ∧ S w0 w' R := by
  obtain ⟨k, hk⟩ := (find_f l hl nm).rounds
  exact (PFragcheckChecks.spandrelref20_Find.calls k A c l nm _ w (Kd.C_below hC h.below) hc hk).mono fun _ _ ⟨h1, h2⟩ => ⟨h1, st_drawn h h2⟩
theorem names20_calls (A : Option Addr) (c : Nat) (l : List Func) (A1 : Option Addr) (c1 : Nat) (b : List Stmt) (h : S w0 w R) (hC : CF w0 A l) (hc : l.length ≤ c) (hl : l.length ≤ M) (hC1 : CS w0 A1 b) (hc1 : b.length ≤ c1) (hl1 : b.length ≤ M) (ho : ∀ x ∈ b, ∀ d, okS d x) :
    Calls Try.prog 36 #[.slice A l.length c, .slice A1 b.length c1] w fun e w' => e = .returned (.bool (allB (knownB (namesOf l)) b)) ∧ S w0 w' R := by
  obtain ⟨k, hk⟩ := (names_f l hl _ b (Nat.lt_succ_self _) hl1 ho).rounds
  exact (PFragcheckChecks.spandrelref20_names.calls k A c l A1 c1 b _ w (Kd.C_below hC h.below) hc (Kd.C_below hC1 h.below) hc1 hk).mono fun _ _ ⟨h1, h2⟩ => ⟨h1, st_drawn h h2⟩
set_option maxHeartbeats 2000000 in
set_option maxRecDepth 100000 in
theorem check20_calls (A : Option Addr) (c : Nat) (l : List Func) (h : S w0 w R) (hC : CF w0 A l) (hc : l.length ≤ c) (hlM : l.length ≤ M) (ho : ∀ x ∈ l, okF x) :
    Calls Try.prog 13 #[.slice A l.length c] w fun e w' => e = .returned (.int .i64 (errI l)) ∧ S w0 w' R := by
  have hl : l.length ≤ 9223372036854775807 := hC.2.1
  have HS0 := Lib.hid (shaped18_calls A c l h hC hc hlM ho)
  have HC := Lib.hid (And.intro hC (And.intro hc (And.intro hlM ho)))
  clear h hC hc ho
  cases hs : shapedB l with
  | false =>
    have HE := Lib.hid (err_one hs)
    rw [hs] at HS0
    clear hs
    go_enter Try.func13, Try.ntmps13
    go_wp2_with fail
    refine HS0.out.mono ?_
    rintro e w1 ⟨rfl, h1⟩
    have H1 := Lib.hid h1
    clear h1
    go_wp2
    go_ret
    exact ⟨by rw [HE.out]; rfl, H1.out⟩
  | true =>
    rw [hs] at HS0
    have HH := Lib.hid hs
    clear hs
    go_enter Try.func13, Try.ntmps13
    go_wp2_with fail
    refine HS0.out.mono ?_
    rintro e w1 ⟨rfl, h1⟩
    have H1 := Lib.hid h1
    clear h1
    go_wp2
    go_loopw [3] (fun v wr => ∃ x : Int, 0 ≤ x ∧ x ≤ l.length ∧ v = .int .i64 x ∧ Hid (S w0 wr R) ∧ Hid (∀ (i : Nat) (f : Func), i < x.toNat → l[i]? = some f → findN (nameB f.f0) l 0 = (i : Int) ∧ allB (knownB (namesOf l)) f.f1 = true)) (fun v _ => l.length - (intOf v).toNat)
    case atStart => exact ⟨0, Int.le_refl _, by omega, rfl, Lib.hid H1.out, Lib.hid fun i f hi => absurd hi (Nat.not_lt_zero i)⟩
    case round =>
      obtain ⟨x, hx0, hx1, rfl, HS, HN⟩ := hrel
      by_cases hlt : x < l.length
      · obtain ⟨ad, cs, rfl, hcl, hK, hcell0⟩ := Kd.C_get HC.out.1 PFragcheckChecks.z34 x hx0 hlt
        have hcell : ∀ j u, cs[j]? = some u → w0.cell? (ad.add (x.toNat * 2 + j)) = some u := hcell0
        clear hcell0
        have HR := Lib.hid (getD_mem l PFragcheckChecks.z34 x hx0 hlt)
        obtain ⟨A1, c1, rfl, g1, k1⟩ := PFragcheckChecks.k34_open (id hK)
        generalize l.getD x.toNat PFragcheckChecks.z34 = r at *
        have HM := Lib.hid (List.mem_of_getElem? HR.out)
        have HC2 : Hid (∀ (w' : World) (Q : HP), S w0 w' Q → w'.cell? (ad.add (x.toNat * 2)) = some (.string r.f0) ∧ w'.cell? ⟨(ad.add (x.toNat * 2)).block, (ad.add (x.toNat * 2)).off + 1, none⟩ = some (.slice A1 r.f1.length c1)) := Lib.hid fun W Q hW =>
          ⟨pw_cell_below hW.below (hcell 0 _ rfl), by rw [← add_field _ _ 1 (by omega)]; exact pw_cell_below hW.below (hcell 1 _ rfl)⟩
        have HA := Lib.hid (And.intro k1 (And.intro g1 (HC.out.2.2.2 r HM.out).2))
        obtain ⟨d0, d1⟩ := HC2.out _ _ HS.out
        clear hcell hK hcl g1 k1
        have p126 := eq_true hx0
        have q126 : (x < (l.length : Int)) = True := eq_true hlt
        generalize hy : findN (nameB r.f0) l 0 = y
        have HF := Lib.hid hy
        by_cases q0 : y = x
        · have q0b : (y != x) = false := by rw [q0]; simp
          have HX : Hid (y = x) := Lib.hid q0
          clear q0 hy
          cases hk : allB (knownB (namesOf l)) r.f1 with
          | false =>
            have HK := Lib.hid hk
            have HE := Lib.hid (err_known HH.out HM.out hk)
            clear hk
            go_wp2_with fail
            refine (find20_calls _ c l r.f0 HS.out HC.out.1 HC.out.2.1 HC.out.2.2.1).mono ?_
            rintro e w2 ⟨rfl, h2⟩
            rw [HF.out]
            have H2 := Lib.hid h2
            clear d0 d1 h2
            obtain ⟨d0, d1⟩ := HC2.out _ _ H2.out
            go_wp2_with fail
            refine (names20_calls _ c l A1 c1 r.f1 H2.out HC.out.1 HC.out.2.1 HC.out.2.2.1 HA.out.1 HA.out.2.1 HA.out.2.2.1 HA.out.2.2.2).mono ?_
            rintro e w3 ⟨rfl, h3⟩
            rw [HK.out]
            have H3 := Lib.hid h3
            clear h3
            have HL := Lib.hid H3.out
            clear d0 d1
            go_wp2
            go_ret
            exact ⟨by rw [HE.out]; rfl, HL.out⟩
          | true =>
            have HK := Lib.hid hk
            have HN2 : Hid (∀ (i : Nat) (f : Func), i < (x + 1).toNat → l[i]? = some f → findN (nameB f.f0) l 0 = (i : Int) ∧ allB (knownB (namesOf l)) f.f1 = true) := Lib.hid fun i f hi hf => by
              by_cases hix : i < x.toNat
              · exact HN.out i f hix hf
              · have e : i = x.toNat := by omega
                have hg := HR.out
                rw [← e, hf] at hg
                cases hg
                exact ⟨by rw [HF.out, HX.out]; omega, hk⟩
            clear hk
            go_wp2_with fail
            refine (find20_calls _ c l r.f0 HS.out HC.out.1 HC.out.2.1 HC.out.2.2.1).mono ?_
            rintro e w2 ⟨rfl, h2⟩
            rw [HF.out]
            have H2 := Lib.hid h2
            clear d0 d1 h2
            obtain ⟨d0, d1⟩ := HC2.out _ _ H2.out
            go_wp2_with fail
            refine (names20_calls _ c l A1 c1 r.f1 H2.out HC.out.1 HC.out.2.1 HC.out.2.2.1 HA.out.1 HA.out.2.1 HA.out.2.2.1 HA.out.2.2.2).mono ?_
            rintro e w3 ⟨rfl, h3⟩
            rw [HK.out]
            have H3 := Lib.hid h3
            clear h3
            have HL := Lib.hid H3.out
            clear d0 d1
            go_wp2
            exact ⟨⟨x + 1, by omega, by omega, by go_num, HL, HN2⟩, by simp only [intOf]; omega⟩
        · have q0b : (y != x) = true := bne_iff_ne.mpr q0
          have HE := Lib.hid (err_find HH.out HR.out (by rw [hy]; omega))
          clear q0 hy
          go_wp2_with fail
          refine (find20_calls _ c l r.f0 HS.out HC.out.1 HC.out.2.1 HC.out.2.2.1).mono ?_
          rintro e w2 ⟨rfl, h2⟩
          rw [HF.out]
          have H2 := Lib.hid h2
          clear d0 d1 h2
          obtain ⟨d0, d1⟩ := HC2.out _ _ H2.out
          have HL := Lib.hid H2.out
          clear d0 d1
          go_wp2
          go_ret
          exact ⟨by rw [HE.out]; rfl, HL.out⟩
      · have hx : x = l.length := by omega
        have hlt' : (x < (l.length : Int)) = False := eq_false hlt
        have HE := Lib.hid (err_rest HH.out fun i f hi hf => HN.out i f (by omega) hf)
        clear HN hx0 hx1 hx hlt
        go_wp2
        go_loopw [4] (fun v wr => ∃ x : Int, 0 ≤ x ∧ x ≤ l.length ∧ v = .int .i64 x ∧ Hid (S w0 wr R) ∧ Hid (∀ (i : Nat) (f : Func), i < x.toNat → l[i]? = some f → allB typedB f.f1 = true)) (fun v _ => l.length - (intOf v).toNat)
        case atStart => exact ⟨0, Int.le_refl _, by omega, rfl, Lib.hid HS.out, Lib.hid fun i f hi => absurd hi (Nat.not_lt_zero i)⟩
        case round =>
          clear hlt'
          obtain ⟨x, hx0, hx1, rfl, HS, HN⟩ := hrel
          by_cases hlt : x < l.length
          · obtain ⟨ad, cs, rfl, hcl, hK, hcell0⟩ := Kd.C_get HC.out.1 PFragcheckChecks.z34 x hx0 hlt
            have hcell : ∀ j u, cs[j]? = some u → w0.cell? (ad.add (x.toNat * 2 + j)) = some u := hcell0
            clear hcell0
            have HR := Lib.hid (getD_mem l PFragcheckChecks.z34 x hx0 hlt)
            obtain ⟨A1, c1, rfl, g1, k1⟩ := PFragcheckChecks.k34_open (id hK)
            generalize l.getD x.toNat PFragcheckChecks.z34 = r at *
            have HM := Lib.hid (List.mem_of_getElem? HR.out)
            have HC2 : Hid (∀ (w' : World) (Q : HP), S w0 w' Q → w'.cell? (ad.add (x.toNat * 2)) = some (.string r.f0) ∧ w'.cell? ⟨(ad.add (x.toNat * 2)).block, (ad.add (x.toNat * 2)).off + 1, none⟩ = some (.slice A1 r.f1.length c1)) := Lib.hid fun W Q hW =>
              ⟨pw_cell_below hW.below (hcell 0 _ rfl), by rw [← add_field _ _ 1 (by omega)]; exact pw_cell_below hW.below (hcell 1 _ rfl)⟩
            have HA := Lib.hid (And.intro k1 (And.intro g1 (HC.out.2.2.2 r HM.out).2))
            obtain ⟨d0, d1⟩ := HC2.out _ _ HS.out
            clear hcell hK hcl g1 k1
            have p126 := eq_true hx0
            have q126 : (x < (l.length : Int)) = True := eq_true hlt
            cases ht : allB typedB r.f1 with
            | false =>
              have HT := Lib.hid ht
              have HE2 : Hid (errI l = 12) := Lib.hid (by
                rw [HE.out, if_neg]
                intro h
                have := List.all_eq_true.1 h r HM.out
                rw [ht] at this
                cases this)
              clear ht
              go_wp2_with fail
              refine (types_calls _ r.f1 (Nat.lt_succ_self _) _ _ A1 c1 HS.out HA.out.1 HA.out.2.2.1 HA.out.2.2.2).mono ?_
              rintro e w2 ⟨rfl, h2⟩
              rw [HT.out]
              have HL := Lib.hid h2
              clear d0 d1 h2
              go_wp2
              go_ret
              exact ⟨by rw [HE2.out]; rfl, HL.out⟩
            | true =>
              have HT := Lib.hid ht
              have HN2 : Hid (∀ (i : Nat) (f : Func), i < (x + 1).toNat → l[i]? = some f → allB typedB f.f1 = true) := Lib.hid fun i f hi hf => by
                by_cases hix : i < x.toNat
                · exact HN.out i f hix hf
                · have e : i = x.toNat := by omega
                  have hg := HR.out
                  rw [← e, hf] at hg
                  cases hg
                  exact ht
              clear ht
              go_wp2_with fail
              refine (types_calls _ r.f1 (Nat.lt_succ_self _) _ _ A1 c1 HS.out HA.out.1 HA.out.2.2.1 HA.out.2.2.2).mono ?_
              rintro e w2 ⟨rfl, h2⟩
              rw [HT.out]
              have HL := Lib.hid h2
              clear d0 d1 h2
              go_wp2
              exact ⟨⟨x + 1, by omega, by omega, by go_num, HL, HN2⟩, by simp only [intOf]; omega⟩
          · have hlt' : (x < (l.length : Int)) = False := eq_false hlt
            have HE2 : Hid (errI l = 0) := Lib.hid (by
              rw [HE.out, if_pos]
              exact List.all_eq_true.2 fun f hf => by
                obtain ⟨i, hi⟩ := List.getElem?_of_mem hf
                exact HN.out i f (by have := (List.getElem?_eq_some_iff.1 hi).1; omega) hi)
            go_wp2
            go_ret
            exact ⟨by rw [HE2.out]; rfl, HS.out⟩
end Go.Proofs.Ytbjddomocggjmaa.Fc
