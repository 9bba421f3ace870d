/- Resolve of scope: walked. -/
import Derived.Test.YtbjddomocggjmaaKAl
import Derived.Test.YtbjddomocggjmaaKAn
namespace Go.Proofs.Ytbjddomocggjmaa.Sc
open Go.RowKit Go.ChangeShapes Go.WideShapes Go.Proofs.Ytbjddomocggjmaa.Sep
open Go.Proofs.YtbjddomocggjmaaW.PrintWords
variable {B : Nat} {w0 w : World} {R : HP}
open Go.Maps Go.ChangeMaps Go.MapKept
set_option maxHeartbeats 16000000 in
set_option maxRecDepth 100000 in
theorem resolve_calls (A : Option Addr) (c : Nat) (l : List Md) (h : S w0 w R) (hC : kMd.C w0 A l.length l) (ho : ∀ m ∈ l, oMd m) :
    Calls Try.prog 19 #[.slice A l.length c] w fun e w' => ∃ A' n' c' xk, e = .returned (.tuple #[.slice A' n' c', .int .i64 (resP l).1]) ∧ n' = (resP l).2.length ∧
      S w0 w' (RowV 57 18 (.slice A' n' c') n' xk • (Vw w0 w0.heap.size (fun W => Reps (kEn.K W) 18 (resP l).2 xk) • R)) := by
  have eg : ∀ args w, (callFunc 44 args).run Try.prog w = .ok (.enter 44 args) w := enters_of Try.func44 (by kernel_rfl) rfl
  have hl' : l.length ≤ 9223372036854775807 := hC.2.1
  have HA := Lib.hid (And.intro hC ho)
  have H := Lib.hid h
  have HM := Lib.hid (contains_mds _ _ eg _ A c l hC h (bad_mod_tells l ho))
  clear h hC ho eg
  by_cases q0 : 256 < l.length
  · have p0 : decide ((256 : Int) < (l.length : Int)) = true := decide_eq_true (by omega)
    have HQ := Lib.hid (show badB l = true by unfold badB; rw [decide_eq_true q0]; rfl)
    clear q0
    go_enter Try.func19, Try.ntmps19
    have HZ : Hid (resP l = (1, [])) := Lib.hid (res_bad HQ.out)
    go_wp2
    refine bodyPost_ret (v := .tuple #[.slice none 0 0, .int .i64 1]) (by simp [results, Try.results19, go_sem]) rfl ?_
    exact ⟨none, 0, 0, [], by rw [HZ.out], by rw [HZ.out]; rfl, (Vw.base H.out (fun wv _ => by rw [HZ.out]; exact Reps.none _ _)).nil _ _⟩
  have p0 : decide ((256 : Int) < (l.length : Int)) = false := decide_eq_false (by omega)
  cases q1 : l.any fun m => !mdB m with
  | true =>
    have HQ := Lib.hid (show badB l = true by unfold badB; rw [q1, Bool.or_true])
    rw [q1] at HM
    clear q0 q1
    go_enter Try.func19, Try.ntmps19
    go_wp2_with fail
    refine HM.out.mono ?_
    rintro e w1 ⟨rfl, h1⟩
    have H1 := Lib.hid h1
    clear h1
    have HZ : Hid (resP l = (1, [])) := Lib.hid (res_bad HQ.out)
    go_wp2
    refine bodyPost_ret (v := .tuple #[.slice none 0 0, .int .i64 1]) (by simp [results, Try.results19, go_sem]) rfl ?_
    exact ⟨none, 0, 0, [], by rw [HZ.out], by rw [HZ.out]; rfl, (Vw.base H1.out (fun wv _ => by rw [HZ.out]; exact Reps.none _ _)).nil _ _⟩
  | false =>
  have HN : Hid (badB l = false) := Lib.hid (by unfold badB; rw [q1, decide_eq_false q0]; rfl)
  have HB := Lib.hid (bad_false.1 HN.out)
  rw [q1] at HM
  clear q0 q1
  have hmm := @run_makeMap Try.prog
  go_enter Try.func19, Try.ntmps19
  go_wp2_with fail
  refine HM.out.mono ?_
  rintro e w1 ⟨rfl, h1⟩
  generalize hrb : w1.heap.size = rb
  have hgg : ∃ g, g = rb + 1 := ⟨_, rfl⟩
  obtain ⟨g, hgg⟩ := hgg
  have H1 := Lib.hid (alloc_at (n := g) (mv_made (n := rb) h1 hrb.symm) (.cells #[.map none] 86) (by simp [hrb, hgg]))
  clear h1 H
  go_wp2_with (refine held_store _ _ _ rfl ?_)
  refine ⟨?_⟩
  subst hgg
  refine wpList_store_off rfl rfl [.map (some rb)] rfl rfl rfl (by kernel_rfl) (by simp [Value.oneCell']) H1.out (by simp) (new := #[.map (some rb)]) rfl ?_
  intro w5 h5
  generalize rb + 1 = g at h5 ⊢
  have H5 : Hid (S w0 w5 (Blk g (.cells #[.map (some rb)] 86) • (MapV rb (ofM (l.take (0 : Int).toNat) []) • (MapsV (fullsV (l.take (0 : Int).toNat) []) • (MapsV (ownsV (l.take (0 : Int).toNat) []) • R))))) := Lib.hid (four (four h5.pad.swap.pad.swap))
  clear h5 H1 hmm
  go_wp2
  go_loopw [29] (fun v wr => ∃ (x : Int) (bs : List (Nat × Nat)), 0 ≤ x ∧ x ≤ l.length ∧ v = .int .i64 x ∧ bs.length = x.toNat ∧ Hid (S w0 wr (Blk g (.cells #[.map (some rb)] 86) • (MapV rb (ofM (l.take x.toNat) bs) • (MapsV (fullsV (l.take x.toNat) bs) • (MapsV (ownsV (l.take x.toNat) bs) • R))))) ∧ Hid ((kys (mdNames (l.take x.toNat))).Nodup ∧ ∀ m ∈ l.take x.toNat, onceB (dfNames m) = true)) (fun v _ => l.length - (intOf v).toNat)
  case atStart => exact ⟨0, [], Int.le_refl _, by omega, rfl, rfl, H5, Lib.hid ⟨by simp [kys, mdNames], by simp⟩⟩
  case round =>
    clear H5
    obtain ⟨x, bs, hx0, hx1, rfl, hbs, HR, HT⟩ := hrel
    by_cases hlt : x < l.length
    · obtain ⟨ad, cs, eA, hcl0, hK, hcell0⟩ := Kd.C_get HA.out.1 zMd x hx0 hlt
      cases eA
      have hcell : ∀ (j : Nat) (u : Value), cs[j]? = some u → w0.cell? (ad.add (x.toNat * 4 + j)) = some u := hcell0
      have HG := Lib.hid (getD_mem l zMd x hx0 hlt)
      generalize l.getD x.toNat zMd = r at *
      obtain ⟨A2, c2, A3, c3, rfl, l2, g2, l3, g3⟩ := kMd_open (show kMd.K w0 r cs from hK)
      have hrm := List.mem_of_getElem? HG.out
      have HE := Lib.hid (And.intro g2 (And.intro g3 (And.intro (HA.out.2 r hrm) (mdB_has (HB.out.2 r hrm)))))
      have HCl := Lib.hid hcell
      have hsn : r.n.size ≤ maxLen := by have := (HA.out.2 r hrm).1; simp only [oS, M] at this; simp only [maxLen]; omega
      have p126 := eq_true hx0
      have q126 : (x < (l.length : Int)) = True := eq_true hlt
      have e1 : (x + 1).toNat = x.toNat + 1 := by omega
      clear hcell hcell0 hcl0 hK l2 l3 g2 g3 hrm
      go_wp2_with (refine held_load 47 _ rfl ?_)
      refine ⟨?_⟩
      refine wpList_load_cells rfl 47 _ rfl _ rfl [.string r.n, .bool r.au, .slice A2 r.im.length c2, .slice A3 r.df.length c3] (elem_cells HR.out.below HCl.out) _ Try.underlying47 rfl (by kernel_rfl) ?_
      go_wp2_with (refine held_store _ _ _ rfl ?_)
      refine ⟨?_⟩
      refine wpList_store_off rfl rfl [.string r.n, .bool r.au, .slice A2 r.im.length c2, .slice A3 r.df.length c3] rfl rfl rfl (by kernel_rfl) (by simp [Value.oneCell']) (HR.out.alloc _) (by simp) (new := #[.string r.n, .bool r.au, .slice A2 r.im.length c2, .slice A3 r.df.length c3]) rfl ?_
      intro w6 h6
      generalize wr.heap.size = q at h6 ⊢
      have H6 := Lib.hid h6
      have d0 := h6.cell 0 rfl
      have d1 := h6.cell 1 rfl
      have d2 := h6.cell 2 rfl
      have d3 := h6.cell 3 rfl
      clear h6
      go_wp2_with fail
      refine (owned_calls r A2 c2 A3 c3 H6.out HE.out.2.1 HE.out.2.2.1 HE.out.2.2.2.2.1).mono ?_
      rintro e w7 ⟨b, bo, rfl, h7⟩
      have H7 := Lib.hid h7
      clear h7 d0 d1 d2 d3
      go_wp2_with (refine held_store _ _ _ rfl ?_)
      refine ⟨?_⟩
      refine wpList_store_off rfl rfl [.map (some b), .map (some bo)] rfl rfl rfl (by kernel_rfl) (by simp [Value.oneCell']) (H7.out.alloc _) (by simp) (new := #[.map (some b), .map (some bo)]) rfl ?_
      intro w8 h8
      generalize w7.heap.size = q2 at h8 ⊢
      have H8 := Lib.hid h8
      clear h8
      cases hok : onceB (dfNames r) with
      | false =>
        have H9 : Hid (S w0 w8 (Blk q2 (.cells #[.map (some b), .map (some bo)] 89) • (Blk q (.cells #[.string r.n, .bool r.au, .slice A2 r.im.length c2, .slice A3 r.df.length c3] 47) • (Blk g (.cells #[.map (some rb)] 86) • (MapV rb (ofM (l.take x.toNat) bs) • (MapsV (fullsV (l.take x.toNat) bs) • (MapsV (ownsV (l.take x.toNat) bs) • R))))))) := Lib.hid (by have := H8.out; rw [hok] at this; exact this)
        have d0 := H9.out.two.cell 0 rfl
        have r0 := H9.out.three.cell 0 rfl
        have lk := mv_lookOk Try.underlying84 (zero_names w8) (four H9.out) r.n hsn
        have HD := Lib.hid (dup_mem (List.mem_of_getElem? HG.out) hok)
        rcases ofM_look (l := l.take x.toNat) (bs := bs) (by rw [List.length_take]; omega) r.n.data.toList with ⟨h1, h2⟩ | ⟨j, mj, bj, h1, h2, h3, h4⟩
        · rw [h1, Option.getD_none, Option.isSome_none] at lk
          clear h1 h2
          go_wp2_with (refine held_store _ _ _ rfl ?_)
          refine ⟨?_⟩
          refine wpList_store_off rfl rfl [.map none, .map none] rfl rfl rfl (by kernel_rfl) (by simp [Value.oneCell']) (H9.out.alloc _) (by simp) (new := #[.map none, .map none]) rfl ?_
          intro w10 h10
          have H10 := Lib.hid h10.drop.drop.drop.drop.drop.drop.drop
          clear h10 lk d0 r0
          have HZ : Hid (resP l = (7, [])) := Lib.hid (res_dup2 HN.out HD.out)
          go_wp2
          refine bodyPost_ret (v := .tuple #[.slice none 0 0, .int .i64 7]) (by simp [results, Try.results19, go_sem]) rfl ?_
          exact ⟨none, 0, 0, [], by rw [HZ.out], by rw [HZ.out]; rfl, (Vw.base H10.out (fun wv _ => by rw [HZ.out]; exact Reps.none _ _)).nil _ _⟩
        · rw [h4, Option.getD_some, Option.isSome_some] at lk
          clear h1 h2 h3 h4
          go_wp2_with (refine held_store _ _ _ rfl ?_)
          refine ⟨?_⟩
          refine wpList_store_off rfl rfl [.map (some bj.1), .map (some bj.2)] rfl rfl rfl (by kernel_rfl) (by simp [Value.oneCell']) (H9.out.alloc _) (by simp) (new := #[.map (some bj.1), .map (some bj.2)]) rfl ?_
          intro w10 h10
          have H10 := Lib.hid h10.drop.drop.drop.drop.drop.drop.drop
          clear h10 lk d0 r0
          have HZ : Hid (resP l = (7, [])) := Lib.hid (res_dup2 HN.out HD.out)
          go_wp2
          refine bodyPost_ret (v := .tuple #[.slice none 0 0, .int .i64 7]) (by simp [results, Try.results19, go_sem]) rfl ?_
          exact ⟨none, 0, 0, [], by rw [HZ.out], by rw [HZ.out]; rfl, (Vw.base H10.out (fun wv _ => by rw [HZ.out]; exact Reps.none _ _)).nil _ _⟩
      | true =>
        have H9 : Hid (S w0 w8 (Blk q2 (.cells #[.map (some b), .map (some bo)] 89) • (Blk q (.cells #[.string r.n, .bool r.au, .slice A2 r.im.length c2, .slice A3 r.df.length c3] 47) • (Blk g (.cells #[.map (some rb)] 86) • (MapV rb (ofM (l.take x.toNat) bs) • (MapV b (strM (ownP r)) • (MapV bo (setM (kys (dfNames r))) • (MapsV (fullsV (l.take x.toNat) bs) • (MapsV (ownsV (l.take x.toNat) bs) • R))))))))) := Lib.hid (by
          have h := H8.out
          rw [hok] at h
          have h1 : S w0 w8 (Blk q2 (.cells #[.map (some b), .map (some bo)] 89) • (MapV b (strM (ownP r)) • (MapV bo (setM (kys (dfNames r))) • (Blk q (.cells #[.string r.n, .bool r.au, .slice A2 r.im.length c2, .slice A3 r.df.length c3] 47) • (Blk g (.cells #[.map (some rb)] 86) • (MapV rb (ofM (l.take x.toNat) bs) • (MapsV (fullsV (l.take x.toNat) bs) • (MapsV (ownsV (l.take x.toNat) bs) • R)))))))) := h
          exact four (six (six (six h1))))
        have d0 := H9.out.two.cell 0 rfl
        have r0 := H9.out.three.cell 0 rfl
        have lk := mv_lookOk Try.underlying84 (zero_names w8) (four H9.out) r.n hsn
        rcases ofM_look (l := l.take x.toNat) (bs := bs) (by rw [List.length_take]; omega) r.n.data.toList with ⟨h1, h2⟩ | ⟨j, mj, bj, h1, h2, h3, h4⟩
        · rw [h1, Option.getD_none, Option.isSome_none] at lk
          have HT2 : Hid ((kys (mdNames (l.take (x + 1).toNat))).Nodup ∧ ∀ m ∈ l.take (x + 1).toNat, onceB (dfNames m) = true) := Lib.hid (by
            rw [e1, List.take_add_one, HG.out]
            refine ⟨?_, fun m hm => ?_⟩
            · rw [show mdNames (l.take x.toNat ++ (some r).toList) = mdNames (l.take x.toNat) ++ [r.n] by simp [mdNames], kys_snoc, List.nodup_append]
              refine ⟨HT.out.1, by simp, fun a ha bb hb => ?_⟩
              rw [List.mem_singleton.1 hb]
              rintro rfl
              obtain ⟨s, hs, e⟩ := List.mem_map.1 ha
              obtain ⟨m, hm, rfl⟩ := List.mem_map.1 hs
              exact h2 m hm e
            · rcases List.mem_append.1 hm with hm | hm
              · exact HT.out.2 m hm
              · rw [show m = r by simpa using hm]
                exact hok)
          clear h1 h2
          go_wp2_with (refine held_store _ _ _ rfl ?_)
          refine ⟨?_⟩
          refine wpList_store_off rfl rfl [.map none, .map none] rfl rfl rfl (by kernel_rfl) (by simp [Value.oneCell']) (H9.out.alloc _) (by simp) (new := #[.map none, .map none]) rfl ?_
          intro w10 h10
          have H10 := Lib.hid h10.drop
          clear h10 lk d0 r0 H9
          have r0 := H10.out.three.cell 0 rfl
          have d0 := H10.out.two.cell 0 rfl
          have f0 := H10.out.cell 0 rfl
          have f1 := H10.out.cell 1 rfl
          have HS2 := Lib.hid hsn
          have HB2 : Hid ((ofM (l.take x.toNat) bs).length < maxLen) := Lib.hid (by
            have := HB.out.1
            unfold ofM
            rw [List.length_zipWith, List.length_take]
            simp only [maxLen]
            omega)
          go_wp2_with (at_mapUpdate; refine HeldT.out ?_)
          refine ⟨?_⟩
          refine wpList_putV Try.underlying84 rfl _ _ _ rfl rfl _ rfl (.agg #[.map (some b), .map (some bo)]) rfl (four H10.out) HS2.out HB2.out ?_
          intro w11 h11
          have H11 : Hid (S w0 w11 (Blk g (.cells #[.map (some rb)] 86) • (MapV rb (ofM (l.take (x + 1).toNat) (bs ++ [(b, bo)])) • (MapsV (fullsV (l.take (x + 1).toNat) (bs ++ [(b, bo)])) • (MapsV (ownsV (l.take (x + 1).toNat) (bs ++ [(b, bo)])) • R))))) := Lib.hid (by
            have e2 : ofM (l.take (x + 1).toNat) (bs ++ [(b, bo)]) = ofM (l.take x.toNat) bs ++ [(r.n.data.toList, .agg #[.map (some b), .map (some bo)])] := zip_next _ (b, bo) hx0 hbs HG.out
            have e3 : fullsV (l.take (x + 1).toNat) (bs ++ [(b, bo)]) = fullsV (l.take x.toNat) bs ++ [(b, strM (ownP r))] := zip_next _ (b, bo) hx0 hbs HG.out
            have e4 : ownsV (l.take (x + 1).toNat) (bs ++ [(b, bo)]) = ownsV (l.take x.toNat) bs ++ [(bo, setM (kys (dfNames r)))] := zip_next _ (b, bo) hx0 hbs HG.out
            rw [e2, e3, e4]
            exact four (St.three (maps_add (five (five (maps_add (five (six h11.two.drop.two.drop))))))))
          have hbs2 : (bs ++ [(b, bo)]).length = (x + 1).toNat := by rw [List.length_append, List.length_singleton]; omega
          clear h11 r0 d0 f0 f1 e1
          go_wp2
          exact ⟨⟨x + 1, _, by omega, by omega, by go_num, hbs2, H11, HT2⟩, by simp only [intOf]; omega⟩
        · rw [h4, Option.getD_some, Option.isSome_some] at lk
          have HD := Lib.hid (dup_once (once_take (l := mdNames l) (j := x.toNat) (s := r.n) (by have := take_next (fun m : Md => m.n) hx0 HG.out; rwa [e1] at this) (by
            refine List.contains_iff_mem.2 (List.mem_map.2 ⟨mj.n, ?_, h3⟩)
            unfold mdNames
            rw [← List.map_take]
            exact List.mem_map.2 ⟨mj, List.mem_of_getElem? h1, rfl⟩)))
          clear h1 h2 h3 h4
          go_wp2_with (refine held_store _ _ _ rfl ?_)
          refine ⟨?_⟩
          refine wpList_store_off rfl rfl [.map (some bj.1), .map (some bj.2)] rfl rfl rfl (by kernel_rfl) (by simp [Value.oneCell']) (H9.out.alloc _) (by simp) (new := #[.map (some bj.1), .map (some bj.2)]) rfl ?_
          intro w10 h10
          have H10 := Lib.hid h10.drop.drop.drop.drop.drop.drop.drop.drop.drop
          clear h10 lk d0 r0
          have HZ : Hid (resP l = (7, [])) := Lib.hid (res_dup2 HN.out HD.out)
          go_wp2
          refine bodyPost_ret (v := .tuple #[.slice none 0 0, .int .i64 7]) (by simp [results, Try.results19, go_sem]) rfl ?_
          exact ⟨none, 0, 0, [], by rw [HZ.out], by rw [HZ.out]; rfl, (Vw.base H10.out (fun wv _ => by rw [HZ.out]; exact Reps.none _ _)).nil _ _⟩
    · have hlt' : (x < (l.length : Int)) = False := eq_false hlt
      have e1 : l.take x.toNat = l := List.take_of_length_le (by omega)
      have HBL : Hid (bs.length = l.length) := Lib.hid (by omega)
      have HU : Hid (onceB (mdNames l) = true ∧ dupB l = false) := Lib.hid (by
        have h := HT.out
        rw [e1] at h
        have h1 : onceB (mdNames l) = true := decide_eq_true h.1
        exact ⟨h1, dup_false.2 ⟨h1, h.2⟩⟩)
      have H2 : Hid (S w0 wr (MapV rb (ofM l bs) • (MapsV (ownsV l bs) • (MapsV ([] ++ fullsV (l.drop (0 : Int).toNat) (bs.drop (0 : Int).toNat)) • (Blk g (.cells #[.map (some rb)] 86) • (RowV 57 18 (.slice none 0 0) ([] : List (List En)).flatten.length [] • (Vw w0 w0.heap.size (fun W => Reps (kEn.K W) 18 ([] : List (List En)).flatten []) • R))))))) := Lib.hid (by
        have h := HR.out
        rw [e1] at h
        exact six (six (five (St.three (St.two (Vw.base (h.nil _ _) (fun wv _ => Reps.none _ _)))))))
      clear HR HT e1 hbs hx0 hx1 hlt
      go_wp2
      go_loopw [11, 59] (fun vo v wr => ∃ (va : Value) (x : Int) (yss : List (List En)) (xk : List Value) (dn : List (Nat × Kv)), va = vo ∧ 0 ≤ x ∧ x ≤ l.length ∧ v = .int .i64 x ∧ dn.length = x.toNat ∧ Hid (S w0 wr (MapV rb (ofM l bs) • (MapsV (ownsV l bs) • (MapsV (dn ++ fullsV (l.drop x.toNat) (bs.drop x.toNat)) • (Blk g (.cells #[.map (some rb)] 86) • (RowV 57 18 va yss.flatten.length xk • (Vw w0 w0.heap.size (fun W => Reps (kEn.K W) 18 yss.flatten xk) • R))))))) ∧ Hid (mapO (modP (ownHas l)) (l.take x.toNat) = some yss ∧ yss.flatten.length ≤ 256 * x.toNat)) (fun _ v _ => l.length - (intOf v).toNat)
      case atStart => exact ⟨_, 0, [], [], [], rfl, Int.le_refl _, by omega, rfl, rfl, H2, Lib.hid ⟨rfl, by simp⟩⟩
      case round =>
        clear H2
        obtain ⟨va, x, yss, xk, dn, rfl, hx0, hx1, rfl, hdn, HR, HT⟩ := hrel
        by_cases hlt : x < l.length
        · obtain ⟨ad, cs, eA, hcl0, hK, hcell0⟩ := Kd.C_get HA.out.1 zMd x hx0 hlt
          cases eA
          have hcell : ∀ (j : Nat) (u : Value), cs[j]? = some u → w0.cell? (ad.add (x.toNat * 4 + j)) = some u := hcell0
          have HG := Lib.hid (getD_mem l zMd x hx0 hlt)
          generalize l.getD x.toNat zMd = r at *
          obtain ⟨A2, c2, A3, c3, rfl, l2, g2, l3, g3⟩ := kMd_open (show kMd.K w0 r cs from hK)
          have hrm := List.mem_of_getElem? HG.out
          have HE := Lib.hid (And.intro g2 (And.intro g3 (And.intro (HA.out.2 r hrm) (mdB_has (HB.out.2 r hrm)))))
          have HCl := Lib.hid hcell
          have hsn : r.n.size ≤ maxLen := by have := (HA.out.2 r hrm).1; simp only [oS, M] at this; simp only [maxLen]; omega
          have p126 := eq_true hx0
          have q126 : (x < (l.length : Int)) = True := eq_true hlt
          have e1 : (x + 1).toNat = x.toNat + 1 := by omega
          clear hcell hcell0 hcl0 hK l2 l3 g2 g3 hrm
          obtain ⟨b, hb⟩ : ∃ b, bs[x.toNat]? = some b := ⟨_, List.getElem?_eq_getElem (by have := HBL.out; omega)⟩
          have HL : Hid (lookK (ofM l bs) r.n.data.toList = some (.agg #[.map (some b.1), .map (some b.2)])) := Lib.hid (by
            rcases ofM_look HBL.out r.n.data.toList with ⟨-, h1⟩ | ⟨j, m', b', h1, h2, h3, h4⟩
            · exact absurd rfl (h1 r (List.mem_of_getElem? HG.out))
            · have := names_inj HU.out.1 h1 HG.out h3
              subst this
              rw [hb] at h2
              cases h2
              exact h4)
          have HSn := Lib.hid hsn
          have hl3 : r.df.length ≤ 9223372036854775807 := by have := HE.out.2.2.2.2.1; omega
          go_wp2_with (refine held_load 47 _ rfl ?_)
          refine ⟨?_⟩
          refine wpList_load_cells rfl 47 _ rfl _ rfl [.string r.n, .bool r.au, .slice A2 r.im.length c2, .slice A3 r.df.length c3] (elem_cells HR.out.below HCl.out) _ Try.underlying47 rfl (by kernel_rfl) ?_
          go_wp2_with (refine held_store _ _ _ rfl ?_)
          refine ⟨?_⟩
          refine wpList_store_off rfl rfl [.string r.n, .bool r.au, .slice A2 r.im.length c2, .slice A3 r.df.length c3] rfl rfl rfl (by kernel_rfl) (by simp [Value.oneCell']) (HR.out.alloc _) (by simp) (new := #[.string r.n, .bool r.au, .slice A2 r.im.length c2, .slice A3 r.df.length c3]) rfl ?_
          intro w6 h6
          generalize wr.heap.size = q at h6 ⊢
          have H6 := Lib.hid (St.two (five h6))
          have H7 := Lib.hid (five (St.two (five (maps_out (fulls_at hdn HG.out hb) (four h6)))))
          have r0 := (five h6).cell 0 rfl
          have d0 := h6.cell 0 rfl
          have d1 := h6.cell 1 rfl
          have d2 := h6.cell 2 rfl
          have d3 := h6.cell 3 rfl
          clear h6 H6
          go_wp2_with fail
          refine (imports_calls HBL.out HU.out.1 rb HG.out hb (ownP r) (by have := HE.out.2.2.2.2.1; unfold ownP; rw [List.length_map]; omega) A2 c2 A3 c3 H7.out HE.out.1 HE.out.2.2.1 ⟨HE.out.2.2.2.1, HE.out.2.2.2.2.2.1⟩).mono ?_
          rintro e w17 ⟨rfl, fm, hfm, h17⟩
          have H17 := Lib.hid h17
          clear h17 H7 r0 d0 d1 d2 d3
          cases hi : impI (ownHas l) (ownP r) r.im with
          | none =>
            have HZ0 := Lib.hid (res_stuck HN.out HU.out.2 (List.mem_of_getElem? HG.out) (by unfold modP; rw [hi]; rfl))
            clear hfm
            have HZ : Hid (resP l = (7, [])) := Lib.hid (HZ0.out)
            go_wp2
            refine bodyPost_ret (v := .tuple #[.slice none 0 0, .int .i64 7]) (by simp [results, Try.results19, go_sem]) rfl ?_
            exact ⟨none, 0, 0, [], by rw [HZ.out], by rw [HZ.out]; rfl, (Vw.base H17.out.drop.drop.drop.drop.drop.drop.drop.drop (fun wv _ => by rw [HZ.out]; exact Reps.none _ _)).nil _ _⟩
          | some fm2 =>
            obtain rfl := hfm fm2 hi
            have d3 := (five H17.out).cell 3 rfl
            have H18 : Hid (S w0 w17 (MapV b.1 (strM fm) • (MapV rb (ofM l bs) • (Blk q (.cells #[.string r.n, .bool r.au, .slice A2 r.im.length c2, .slice A3 r.df.length c3] 47) • (Blk g (.cells #[.map (some rb)] 86) • (RowV 57 18 va (yss.flatten.length + ([] : List En).length) xk • (Vw w0 w0.heap.size (fun W => Reps (kEn.K W) 18 (yss.flatten ++ []) xk) • (MapsV (ownsV l bs) • (MapsV ((dn ++ fullsV (l.drop x.toNat) (bs.drop x.toNat)).eraseIdx x.toNat) • R))))))))) := Lib.hid (by
              rw [List.append_nil]
              exact six (five (eight (eight (eight (eight H17.out))))))
            clear H17 hfm
            go_wp2
            go_loopw [11, 70] (fun vo v wr => ∃ (va : Value) (y : Int) (ys : List En) (xj : List Value), va = vo ∧ 0 ≤ y ∧ y ≤ r.df.length ∧ v = .int .i64 y ∧ Hid (S w0 wr (MapV b.1 (strM fm) • (MapV rb (ofM l bs) • (Blk q (.cells #[.string r.n, .bool r.au, .slice A2 r.im.length c2, .slice A3 r.df.length c3] 47) • (Blk g (.cells #[.map (some rb)] 86) • (RowV 57 18 va (yss.flatten.length + ys.length) xj • (Vw w0 w0.heap.size (fun W => Reps (kEn.K W) 18 (yss.flatten ++ ys) xj) • (MapsV (ownsV l bs) • (MapsV ((dn ++ fullsV (l.drop x.toNat) (bs.drop x.toNat)).eraseIdx x.toNat) • R))))))))) ∧ Hid (mapO (enOf (lookS fm) r) (r.df.take y.toNat) = some ys ∧ yss.flatten.length + ys.length ≤ 256 * x.toNat + y.toNat)) (fun _ v _ => r.df.length - (intOf v).toNat)
            case atStart => exact ⟨_, 0, [], xk, rfl, Int.le_refl _, by omega, rfl, H18, Lib.hid ⟨rfl, by have := HT.out.2; simp only [List.length_nil]; omega⟩⟩
            case round =>
              clear H18 d3 HR
              obtain ⟨va, y, ys, xj, rfl, hy0, hy1, rfl, HS, HY⟩ := hrel
              have HYb : Hid (256 * x.toNat + y.toNat ≤ 70000) := Lib.hid (by have := HB.out.1; have := HE.out.2.2.2.2.1; omega)
              by_cases hly : y < r.df.length
              · obtain ⟨ad3, cs, eA, hcl0, hK, hcell0⟩ := Kd.C_get HE.out.2.1 zDf y hy0 hly
                cases eA
                have hcell : ∀ (j : Nat) (u : Value), cs[j]? = some u → w0.cell? (ad3.add (y.toNat * 16 + j)) = some u := hcell0
                have HGd := Lib.hid (getD_mem r.df zDf y hy0 hly)
                generalize r.df.getD y.toNat zDf = d at *
                obtain ⟨ts, hD⟩ := df_cells hK
                have HDc := Lib.hid hD
                have hdm := List.mem_of_getElem? HGd.out
                have HOd := Lib.hid (And.intro (HE.out.2.2.1.2.2.2 d hdm).2 (HE.out.2.2.2.2.2.2 d hdm))
                have HCd := Lib.hid hcell
                have p127 := eq_true hy0
                have q127 : (y < (r.df.length : Int)) = True := eq_true hly
                have e2 : (y + 1).toNat = y.toNat + 1 := by omega
                clear hcell hcell0 hcl0 hK hD hdm
                go_wp2_with (refine held_load 59 _ rfl ?_)
                refine ⟨?_⟩
                refine wpList_load_cells rfl 59 _ rfl _ rfl cs (elem_cells HS.out.below HCd.out) _ Try.underlying59 rfl (by rw [HDc.out.len]; kernel_rfl) ?_
                go_wp2_with (refine held_store _ _ _ rfl ?_)
                refine ⟨?_⟩
                refine wpList_store_off rfl rfl cs rfl rfl rfl (by rw [HDc.out.len]; kernel_rfl) HDc.out.one (HS.out.alloc _) (by rw [HDc.out.len]; simp) (new := cs.toArray) (fill_all (by rw [HDc.out.len]; rfl)) ?_
                intro w21 h21
                generalize wr.heap.size = q3 at h21 ⊢
                have H21 := Lib.hid h21
                have r0 := (five h21).cell 0 rfl
                have d0 := (four h21).cell 0 rfl
                have lk := mv_look Try.underlying84 (zero_names w21) h21.three r.n HSn.out
                rw [HL.out, Option.getD_some] at lk
                clear h21
                go_wp2_with (refine held_load 55 _ rfl ?_)
                refine ⟨?_⟩
                refine wpList_load_cells rfl 55 _ rfl ⟨q3, 1, none⟩ rfl ts (fun j v hv => by rw [WideShapes.add_plain]; exact H21.out.cell (1 + j) (by rw [List.getElem?_toArray]; exact HDc.out.typ j v hv)) _ Try.underlying55 rfl (by rw [HDc.out.tlen]; kernel_rfl) ?_
                go_wp2_with fail
                refine (typ_at b.1 (some b.2) fm 40 _ _ d.t ts H21.out.two HDc.out.kt HOd.out.1 HOd.out.2).mono ?_
                rintro e w22 ⟨v, rfl, h22⟩
                have H22 := Lib.hid h22
                clear h22 r0 d0 lk H21
                go_wp2_with (refine held_store _ _ _ rfl ?_)
                refine ⟨?_⟩
                refine wpList_store_off rfl rfl [.int .i64 v.k, .string v.n, .int .i64 v.c0, .int .i64 v.c1, .int .i64 v.c2, .bool v.c3, .bool v.c4, .slice v.A7 v.n7 v.p7, .bool v.e, .string v.fr, .slice v.A10 v.n10 v.p10, .slice v.A11 v.n11 v.p11, .slice v.A12 v.n12 v.p12, .slice v.A13 v.n13 v.p13, .slice v.A14 v.n14 v.p14] rfl rfl rfl (by kernel_rfl) (by simp [Value.oneCell']) (H22.out.alloc _) (by simp) (new := #[.int .i64 v.k, .string v.n, .int .i64 v.c0, .int .i64 v.c1, .int .i64 v.c2, .bool v.c3, .bool v.c4, .slice v.A7 v.n7 v.p7, .bool v.e, .string v.fr, .slice v.A10 v.n10 v.p10, .slice v.A11 v.n11 v.p11, .slice v.A12 v.n12 v.p12, .slice v.A13 v.n13 v.p13, .slice v.A14 v.n14 v.p14]) rfl ?_
                intro w23 h23
                generalize w22.heap.size = q4 at h23 ⊢
                have H23 := Lib.hid h23
                clear h23 H22
                cases ht : typP (lookS fm) 40 d.t with
                | none =>
                  have HZ0 := Lib.hid (res_stuck HN.out HU.out.2 (List.mem_of_getElem? HG.out) (by
                    unfold modP
                    rw [hi]
                    exact mapO_none (List.mem_of_getElem? HGd.out) (by unfold enOf; rw [ht]; rfl)))
                  have HZ : Hid (resP l = (7, [])) := Lib.hid (HZ0.out)
                  go_wp2
                  refine bodyPost_ret (v := .tuple #[.slice none 0 0, .int .i64 7]) (by simp [results, Try.results19, go_sem]) rfl ?_
                  exact ⟨none, 0, 0, [], by rw [HZ.out], by rw [HZ.out]; rfl, (Vw.base H23.out.drop.drop.drop.drop.drop.drop.drop.drop.drop.drop.drop (fun wv _ => by rw [HZ.out]; exact Reps.none _ _)).nil _ _⟩
                | some t1 =>
                  have m0 := (six H23.out).cell 0 rfl
                  have m1 := (six H23.out).cell 1 rfl
                  have n0 := (four H23.out).cell 0 (v := .string d.n) (by rw [List.getElem?_toArray]; exact HDc.out.n)
                  go_wp2_with (refine held_load 55 _ rfl ?_)
                  refine ⟨?_⟩
                  refine wpList_load_row rfl 55 _ rfl q4 rfl _ _ _ _ H23.out.block Try.underlying55 rfl (by kernel_rfl) ?_
                  go_wp2_with (at_builtin; refine Held.out ?_)
                  refine ⟨?_⟩
                  refine wpList_append_blk (by rfl) _ _ Try.underlying41 info_ens rfl (by decide) rfl va (yss.flatten.length + ys.length) xj rfl (cs := [.string r.n, .string d.n, .bool r.au, .int .i64 v.k, .string v.n, .int .i64 v.c0, .int .i64 v.c1, .int .i64 v.c2, .bool v.c3, .bool v.c4, .slice v.A7 v.n7 v.p7, .bool v.e, .string v.fr, .slice v.A10 v.n10 v.p10, .slice v.A11 v.n11 v.p11, .slice v.A12 v.n12 v.p12, .slice v.A13 v.n13 v.p13, .slice v.A14 v.n14 v.p14]) ((eight H23.out).alloc _) rfl rfl (by simp [Value.oneCell']) (by have := HY.out.2; have := HYb.out; simp only [maxLen]; omega) (by have := HY.out.2; have := HYb.out; omega) ?_
                  intro v7 w24 h24
                  have H24 : Hid (S w0 w24 (MapV b.1 (strM fm) • (MapV rb (ofM l bs) • (Blk q (.cells #[.string r.n, .bool r.au, .slice A2 r.im.length c2, .slice (some ad3) r.df.length c3] 47) • (Blk g (.cells #[.map (some rb)] 86) • (RowV 57 18 v7 (yss.flatten.length + (ys ++ [(⟨r.n, d.n, r.au, t1⟩ : En)]).length) (xj ++ ([.string r.n, .string d.n, .bool r.au, .int .i64 v.k, .string v.n, .int .i64 v.c0, .int .i64 v.c1, .int .i64 v.c2, .bool v.c3, .bool v.c4, .slice v.A7 v.n7 v.p7, .bool v.e, .string v.fr, .slice v.A10 v.n10 v.p10, .slice v.A11 v.n11 v.p11, .slice v.A12 v.n12 v.p12, .slice v.A13 v.n13 v.p13, .slice v.A14 v.n14 v.p14] : List Value)) • (Vw w0 w0.heap.size (fun W => Reps (kEn.K W) 18 (yss.flatten ++ (ys ++ [⟨r.n, d.n, r.au, t1⟩])) (xj ++ ([.string r.n, .string d.n, .bool r.au, .int .i64 v.k, .string v.n, .int .i64 v.c0, .int .i64 v.c1, .int .i64 v.c2, .bool v.c3, .bool v.c4, .slice v.A7 v.n7 v.p7, .bool v.e, .string v.fr, .slice v.A10 v.n10 v.p10, .slice v.A11 v.n11 v.p11, .slice v.A12 v.n12 v.p12, .slice v.A13 v.n13 v.p13, .slice v.A14 v.n14 v.p14] : List Value))) • (MapsV (ownsV l bs) • (MapsV ((dn ++ fullsV (l.drop x.toNat) (bs.drop x.toNat)).eraseIdx x.toNat) • R))))))))) := Lib.hid (by
                    have h1 := St.two (Vw.map (Vw.join (eight h24.two.drop.two.drop).three) (q := fun W => Reps (kEn.K W) 18 (yss.flatten ++ (ys ++ [⟨r.n, d.n, r.au, t1⟩])) (xj ++ ([.string r.n, .string d.n, .bool r.au, .int .i64 v.k, .string v.n, .int .i64 v.c0, .int .i64 v.c1, .int .i64 v.c2, .bool v.c3, .bool v.c4, .slice v.A7 v.n7 v.p7, .bool v.e, .string v.fr, .slice v.A10 v.n10 v.p10, .slice v.A11 v.n11 v.p11, .slice v.A12 v.n12 v.p12, .slice v.A13 v.n13 v.p13, .slice v.A14 v.n14 v.p14] : List Value))) fun wv _ hp => by
                      rw [← List.append_assoc]
                      exact Reps.snoc hp.2 (kEn_mk wv ⟨r.n, d.n, r.au, t1⟩ (hp.1 _ ht)) rfl)
                    rw [List.length_append, List.length_singleton, ← Nat.add_assoc]
                    exact six (six (six (six (four h1).drop))))
                  have HY2 : Hid (mapO (enOf (lookS fm) r) (r.df.take (y + 1).toNat) = some (ys ++ [⟨r.n, d.n, r.au, t1⟩]) ∧ yss.flatten.length + (ys ++ [(⟨r.n, d.n, r.au, t1⟩ : En)]).length ≤ 256 * x.toNat + (y + 1).toNat) := Lib.hid ⟨by rw [e2]; exact mapO_take HGd.out HY.out.1 (by unfold enOf; rw [ht]; rfl), by have := HY.out.2; rw [List.length_append, List.length_singleton]; omega⟩
                  clear h24 m0 m1 n0 e2
                  go_wp2
                  exact ⟨⟨_, y + 1, _, _, rfl, by omega, by omega, by go_num, H24, HY2⟩, by simp only [intOf]; omega⟩
              · have hlt' : (y < (r.df.length : Int)) = False := eq_false hly
                have e3 : r.df.take y.toNat = r.df := List.take_of_length_le (by omega)
                have hmod : modP (ownHas l) r = some ys := by
                  unfold modP
                  rw [hi]
                  have := HY.out.1
                  rwa [e3] at this
                have hfl : (yss ++ [ys]).flatten = yss.flatten ++ ys := by simp
                have H19 : Hid (S w0 wr (MapV rb (ofM l bs) • (MapsV (ownsV l bs) • (MapsV ((dn ++ [(b.1, strM fm)]) ++ fullsV (l.drop (x + 1).toNat) (bs.drop (x + 1).toNat)) • (Blk g (.cells #[.map (some rb)] 86) • (RowV 57 18 va (yss ++ [ys]).flatten.length xj • (Vw w0 w0.heap.size (fun W => Reps (kEn.K W) 18 (yss ++ [ys]).flatten xj) • R))))))) := Lib.hid (by
                  rw [hfl, List.length_append, e1, ← fulls_set (b.1, strM fm) hdn HG.out hb]
                  exact St.three (six (maps_in (fulls_at hdn HG.out hb) (seven HS.out.three.drop).two)))
                have HT2 : Hid (mapO (modP (ownHas l)) (l.take (x + 1).toNat) = some (yss ++ [ys]) ∧ (yss ++ [ys]).flatten.length ≤ 256 * (x + 1).toNat) := Lib.hid ⟨by rw [e1]; exact mapO_take HG.out HT.out.1 hmod, by have := HY.out.2; have := HE.out.2.2.2.2.1; rw [hfl, List.length_append]; omega⟩
                have hdn2 : (dn ++ [(b.1, strM fm)]).length = (x + 1).toNat := by rw [List.length_append, List.length_singleton]; omega
                clear e1 e3 hmod hfl
                go_wp2
                exact ⟨⟨_, x + 1, _, _, _, rfl, by omega, by omega, by go_num, hdn2, H19, HT2⟩, by simp only [intOf]; omega⟩
        · have hlt' : (x < (l.length : Int)) = False := eq_false hlt
          have e1 : l.take x.toNat = l := List.take_of_length_le (by omega)
          have hall : allP l = some yss.flatten := by
            unfold allP
            have := HT.out.1
            rw [e1] at this
            rw [this]
            rfl
          have HRs : Hid (resP l = if finB yss.flatten = true then (0, yss.flatten) else (9, [])) := Lib.hid (by rw [res_all HN.out HU.out.2, hall])
          have HEs : Hid (∀ x ∈ yss.flatten, oS x.m ∧ oS x.n ∧ Dp 40 x.t) := Lib.hid (by
            have hm := HT.out.1
            rw [e1] at hm
            intro z hz
            obtain ⟨ys, hys, hz⟩ := List.mem_flatten.1 hz
            obtain ⟨m, hml, hmp⟩ := mapO_mem hm ys hys
            unfold modP at hmp
            have hom := HA.out.2 m hml
            have hmb := mdB_has (HB.out.2 m hml)
            cases hi : impI (ownHas l) (ownP m) m.im with
            | none => rw [hi] at hmp; cases hmp
            | some fm =>
              rw [hi] at hmp
              obtain ⟨d, hd, he⟩ := mapO_mem hmp z hz
              unfold enOf at he
              cases ht : typP (lookS fm) 40 d.t with
              | none => rw [ht] at he; cases he
              | some t1 =>
                rw [ht] at he
                cases he
                exact ⟨hom.1, (hom.2.2.2 d hd).1, dp_typ (look_sized (impI_sized hom.2.1.2 (own_sized hom) hi)) 40 d.t t1 ht (hmb.2.2.2 d hd) (hom.2.2.2 d hd).2⟩)
          have h10 := HR.out.drop.drop.drop.drop
          have hle : yss.flatten.length ≤ 1000000 := by have := HT.out.2; have := HB.out.1; omega
          clear HR HT hall e1
          generalize yss.flatten = es at HRs HEs h10 hle
          obtain ⟨AO, cO, rfl, hlO, hmO, hCO⟩ := Vw.get (Vw.row (d := kEn) (by decide) rfl h10)
          have HF := Lib.hid (finite_at AO cO es h10 hCO HEs.out hle)
          clear h10
          cases hf : finB es with
          | false =>
            have HZ0 : Hid (resP l = (9, [])) := Lib.hid (by rw [HRs.out, hf, if_neg (by simp)])
            go_wp2_with fail
            refine HF.out.mono ?_
            rintro e w30 ⟨rfl, h30⟩
            have H30 := Lib.hid h30.drop.drop
            rw [hf]
            clear h30 HF
            have HZ : Hid (resP l = (9, [])) := Lib.hid (HZ0.out)
            go_wp2
            refine bodyPost_ret (v := .tuple #[.slice none 0 0, .int .i64 9]) (by simp [results, Try.results19, go_sem]) rfl ?_
            exact ⟨none, 0, 0, [], by rw [HZ.out], by rw [HZ.out]; rfl, (Vw.base H30.out (fun wv _ => by rw [HZ.out]; exact Reps.none _ _)).nil _ _⟩
          | true =>
            have HZ : Hid (resP l = (0, es)) := Lib.hid (by rw [HRs.out, hf, if_pos rfl])
            go_wp2_with fail
            refine HF.out.mono ?_
            rintro e w30 ⟨rfl, h30⟩
            have H30 := Lib.hid h30
            rw [hf]
            clear h30 HF
            go_wp2
            refine bodyPost_ret (v := .tuple #[.slice AO es.length cO, .int .i64 0]) (by simp [results, Try.results19, go_sem]) rfl ?_
            exact ⟨AO, es.length, cO, xk, by rw [HZ.out], by rw [HZ.out], by rw [HZ.out]; exact H30.out⟩
end Go.Proofs.Ytbjddomocggjmaa.Sc
