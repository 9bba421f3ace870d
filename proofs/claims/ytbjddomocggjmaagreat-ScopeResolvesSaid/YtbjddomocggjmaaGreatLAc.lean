/- imports of scope: walked. -/
import Derived.Deep.Cut
import Derived.Test.YtbjddomocggjmaaGreatLAb
namespace Go.Proofs.YtbjddomocggjmaaGreat.Sc
open Go.RowKit Go.ChangeShapes Go.WideShapes Go.Proofs.YtbjddomocggjmaaGreat.Sep
open Go.Proofs.YtbjddomocggjmaaGreatW.PrintWords
variable {B : Nat} {w0 w : World} {R : HP}
open Go.Maps Go.ChangeMaps Go.MapKept
theorem run_own (a c : Option Nat) (w : World) : (Instr.field 59 (.agg #[.map a,.map c]) 1).run Tryz.prog w = .ok (.map c) w := by kernel_rfl
theorem impN_step {h : ByteArray → ByteArray → Bool} {fr : ByteArray} {fm : FM} {l : List ByteArray} {j : Nat} {s : ByteArray} (hj : l[j]? = some s) : impN h fr fm (l.drop j) = if ((lookS fm s.data.toList).isSome || !h fr s) = true then none else impN h fr (fm ++ [(s.data.toList,dotB fr s)]) (l.drop (j + 1)) := by
 have hjl := (List.getElem?_eq_some_iff.1 hj).1
 rw [List.drop_eq_getElem_cons hjl]
 rw [List.getElem?_eq_getElem hjl] at hj
 rw [Option.some.inj hj]
 rfl
theorem impI_step {h : ByteArray → ByteArray → Bool} {fm : FM} {l : List Im} {j : Nat} {x : Im} (hj : l[j]? = some x) : impI h fm (l.drop j) = (impN h x.f1 fm x.f0).bind fun fm' => impI h fm' (l.drop (j + 1)) := by
 have hjl := (List.getElem?_eq_some_iff.1 hj).1
 rw [List.drop_eq_getElem_cons hjl]
 rw [List.getElem?_eq_getElem hjl] at hj
 rw [Option.some.inj hj]
 rfl
set_option maxHeartbeats 16000000 in
set_option maxRecDepth 100000 in
theorem imports_calls {l : List Md} {bs : List (Nat × Nat)} (hbl : bs.length = l.length) (hn : onceB (mdNames l) = true) (rb : Nat) {i : Nat} {m : Md} {b : Nat × Nat} (hi : l[i]? = some m) (hb : bs[i]? = some b) (fm : FM) (hfm : fm.length ≤ 1000)
  (A2 : Option Addr) (c2 : Nat) (A3 : Option Addr) (c3 : Nat) (h : S w0 w (MapV rb (ofM l bs) • (MapV b.1 (strM fm) • (MapsV (ownsV l bs) • R)))) (l2 : kIm.C w0 A2 m.im.length m.im) (ho : oMd m) (hs : m.im.length ≤ 256 ∧ ∀ x ∈ m.im,x.f0.length ≤ 256) :
  Calls Tryz.prog 15 #[.agg #[.map (some rb)],.agg #[.string m.n,.bool m.au,.slice A2 m.im.length c2,.slice A3 m.df.length c3]] w fun e w' => e = .returned (.bool (impI (ownHas l) fm m.im).isSome) ∧ ∃ fm',(∀ r,impI (ownHas l) fm m.im = some r → fm' = r) ∧
   S w0 w' (MapV rb (ofM l bs) • (MapV b.1 (strM fm') • (MapsV (ownsV l bs) • R))) := by
 have hl2 : m.im.length ≤ 9223372036854775807 := by omega
 have hms : m.n.size ≤ maxLen := by have := ho.1; simp only [oS,M] at this; simp only [maxLen]; omega
 have HA := Lib.hid (And.intro l2 (And.intro ho (And.intro hs (And.intro hfm (And.intro hbl hn)))))
 have HL : Hid (lookK (ofM l bs) m.n.data.toList = some (.agg #[.map (some b.1),.map (some b.2)])) := Lib.hid (by
  rcases ofM_look hbl m.n.data.toList with ⟨-,h1⟩ | ⟨j,m',b',h1,h2,h3,h4⟩
  ·exact absurd rfl (h1 m (List.mem_of_getElem? hi))
  ·have := names_inj hn h1 hi h3
   subst this
   rw [hb] at h2
   cases h2
   exact h4)
 generalize hg : w.heap.size = g
 have H := Lib.hid (alloc_at (n := g + 1) (alloc_at (n := g) h (.cells #[.map (some rb)] 55) hg.symm) (.cells #[.string m.n,.bool m.au,.slice A2 m.im.length c2,.slice A3 m.df.length c3] 44) (by simp [hg]))
 have lk := mv_look Tryz.underlying53 (zero_names _) H.out.three m.n hms
 rw [HL.out] at lk
 simp only [Option.getD_some] at lk
 have d0 := H.out.cell 0 rfl
 have r0 := H.out.two.cell 0 rfl
 have H2 := Lib.hid (alloc_at (n := g + 2) H.out (.cells #[.map none,.map none] 59) (by simp [hg]))
 clear h l2 ho hs hfm HL
 go_enter Tryz.func15,Tryz.ntmps15
 go_wp2_with (refine held_store _ _ _ rfl ?_)
 refine ⟨?_⟩
 refine wpList_store_off rfl rfl [.map (some b.1),.map (some b.2)] rfl rfl rfl (by kernel_rfl) (by simp [Value.oneCell']) H2.out (by simp) (new := #[.map (some b.1),.map (some b.2)]) rfl ?_
 intro w5 h5
 have H5 := Lib.hid h5
 have e2 := h5.two.cell 2 rfl
 clear h5 H H2 lk d0 r0
 go_wp2
 go_loopw [20] (fun v wr => ∃ (x : Int) (fx : FM),0 ≤ x ∧ x ≤ m.im.length ∧ v = .int .i64 x ∧ Hid (S w0 wr (Blk (g + 2) (.cells #[.map (some b.1),.map (some b.2)] 59) • (Blk (g + 1) (.cells #[.string m.n,.bool m.au,.slice A2 m.im.length c2,.slice A3 m.df.length c3] 44) • (Blk g (.cells #[.map (some rb)] 55) • (MapV rb (ofM l bs) • (MapV b.1 (strM fx) • (MapsV (ownsV l bs) • R))))))) ∧ Hid (impI (ownHas l) fm m.im = impI (ownHas l) fx (m.im.drop x.toNat) ∧ fx.length ≤ 1000 + 256 * x.toNat)) (fun v _ => m.im.length - (intOf v).toNat)
 case atStart => exact ⟨0,fm,Int.le_refl _,by omega,rfl,H5,Lib.hid ⟨rfl,by have := HA.out.2.2.2.1; omega⟩⟩
 case round =>
  clear H5 e2
  obtain ⟨x,fx,hx0,hx1,rfl,HR,HI⟩ := hrel
  by_cases hlt : x < m.im.length
  ·obtain ⟨ad,cs,eA,hcl0,hK,hcell0⟩ := Kd.C_get HA.out.1 zIm x hx0 hlt
   cases eA
   have hcell : ∀ (j : Nat) (u : Value),cs[j]? = some u → w0.cell? (ad.add (x.toNat * 2 + j)) = some u := hcell0
   have HG := Lib.hid (getD_mem m.im zIm x hx0 hlt)
   obtain ⟨A0,c0,rfl, -,hC0⟩ := PScopeResolves.k50_open (id hK)
   generalize m.im.getD x.toNat zIm = r at *
   have hor := HA.out.2.1.2.1.2 r (List.mem_of_getElem? HG.out)
   have hr0 := HA.out.2.2.1.2 r (List.mem_of_getElem? HG.out)
   have hl3 : r.f0.length ≤ 9223372036854775807 := by omega
   have HC := Lib.hid (And.intro hC0 (And.intro hor (And.intro hr0 hcell)))
   have p126 := eq_true hx0
   have q126 : (x < (m.im.length : Int)) = True := eq_true hlt
   clear hcell hcell0 hcl0 hK hC0 hor hr0
   go_wp2_with (refine held_load 50 _ rfl ?_)
   refine ⟨?_⟩
   refine wpList_load_cells rfl 50 _ rfl _ rfl [.slice A0 r.f0.length c0,.string r.f1] (elem_cells HR.out.below HC.out.2.2.2) _ Tryz.underlying50 rfl (by kernel_rfl) ?_
   go_wp2_with (refine held_store _ _ _ rfl ?_)
   refine ⟨?_⟩
   refine wpList_store_off rfl rfl [.slice A0 r.f0.length c0,.string r.f1] rfl rfl rfl (by kernel_rfl) (by simp [Value.oneCell']) (HR.out.alloc _) (by simp) (new := #[.slice A0 r.f0.length c0,.string r.f1]) rfl ?_
   intro w6 h6
   generalize hq : wr.heap.size = q at h6
   have H6 := Lib.hid h6
   have d0 := h6.cell 0 rfl
   clear h6
   go_wp2
   go_loopw [27] (fun v wr => ∃ (y : Int) (fy : FM),0 ≤ y ∧ y ≤ r.f0.length ∧ v = .int .i64 y ∧ Hid (S w0 wr (Blk q (.cells #[.slice A0 r.f0.length c0,.string r.f1] 50) • (Blk (g + 2) (.cells #[.map (some b.1),.map (some b.2)] 59) • (Blk (g + 1) (.cells #[.string m.n,.bool m.au,.slice (some ad) m.im.length c2,.slice A3 m.df.length c3] 44) • (Blk g (.cells #[.map (some rb)] 55) • (MapV rb (ofM l bs) • (MapV b.1 (strM fy) • (MapsV (ownsV l bs) • R)))))))) ∧ Hid (impN (ownHas l) r.f1 fx r.f0 = impN (ownHas l) r.f1 fy (r.f0.drop y.toNat) ∧ fy.length ≤ 1000 + 256 * x.toNat + y.toNat)) (fun v _ => r.f0.length - (intOf v).toNat)
   case atStart => exact ⟨0,fx,Int.le_refl _,by omega,rfl,H6,Lib.hid ⟨rfl,by have := HI.out.2; omega⟩⟩
   case round =>
    clear H6 d0 HR
    obtain ⟨y,fy,hy0,hy1,rfl,HS,HJ⟩ := hrel
    by_cases hly : y < r.f0.length
    ·obtain ⟨ad0,cs,eA,hcl0,hK,hcell0⟩ := Kd.C_get HC.out.1 (⟨#[]⟩ : ByteArray) y hy0 hly
     cases eA
     have hcell : ∀ (j : Nat) (u : Value),cs[j]? = some u → w0.cell? (ad0.add (y.toNat * 1 + j)) = some u := hcell0
     have HG2 := Lib.hid (getD_mem r.f0 (⟨#[]⟩ : ByteArray) y hy0 hly)
     obtain rfl : cs = [.string (r.f0.getD y.toNat (⟨#[]⟩ : ByteArray))] := hK
     generalize r.f0.getD y.toNat (⟨#[]⟩ : ByteArray) = s at *
     have hos : s.size ≤ 140737488355328 := HC.out.2.1.2.1 s (List.mem_of_getElem? HG2.out)
     have hof : r.f1.size ≤ 140737488355328 := HC.out.2.1.2.2
     have d0 : wr.cell? (ad0.add y.toNat) = some (.string s) := by have h := pw_cell_below HS.out.below (hcell 0 _ rfl); rwa [Nat.mul_one,Nat.add_zero] at h
     have hs : s.size ≤ maxLen := by simp only [maxLen]; omega
     have hf : r.f1.size ≤ maxLen := by simp only [maxLen]; omega
     have p127 := eq_true hy0
     have q127 : (y < (r.f0.length : Int)) = True := eq_true hly
     have el := mv_lookOk Tryz.underlying56 (zero_str wr) (six HS.out) s hs
     rw [look_strM] at el
     have e0 := HS.out.two.cell 0 rfl
     have hst := impN_step (h := ownHas l) (fr := r.f1) (fm := fy) HG2.out
     have HN : Hid ((impN (ownHas l) r.f1 fx r.f0 = none → impI (ownHas l) fm m.im = none)) := Lib.hid (fun h => by rw [HI.out.1,impI_step HG.out,h]; rfl)
     clear hcell hcell0 hcl0
     cases hq2 : lookS fy s.data.toList with
     | some v =>
      rw [hq2] at el hst
      simp only [Option.map_some,Option.getD_some,Option.isSome_some] at el
      have HZ := Lib.hid (HN.out (by rw [HJ.out.1,hst]; rfl))
      clear hst hq2
      go_wp2
      go_ret
      exact ⟨by rw [HZ.out]; rfl,fy,fun r hr => (by rw [HZ.out] at hr; cases hr),HS.out.drop.drop.drop.drop⟩
     | none =>
      rw [hq2] at el hst
      simp only [Option.map_none,Option.getD_none,Option.isSome_none] at el
      simp only [Option.isSome_none,Bool.false_or] at hst
      have d1 := HS.out.cell 1 rfl
      have r0 := (four HS.out).cell 0 rfl
      have lk := mv_look Tryz.underlying53 (zero_names wr) (five HS.out) r.f1 hf
      have hfl := run_own
      clear hq2
      rcases ofM_look HA.out.2.2.2.2.1 r.f1.data.toList with ⟨h1,h2⟩ | ⟨j,mj,bj,h1,h2,h3,h4⟩
      ·rw [h1,Option.getD_none] at lk
       have ln := Maps.look_nil (P := Tryz.prog) false str_keyed Tryz.underlying57 (zero_bool wr) (WideMaps.keyOf_string_mk Tryz.underlying9 hs)
       rw [ownHas_none h2] at hst
       have HZ := Lib.hid (HN.out (by rw [HJ.out.1,hst]; rfl))
       clear hst h1 h2
       go_wp2
       go_ret
       exact ⟨by rw [HZ.out]; rfl,fy,fun r hr => (by rw [HZ.out] at hr; cases hr),HS.out.drop.drop.drop.drop⟩
      ·rw [h4,Option.getD_some] at lk
       have ln := mv_look Tryz.underlying57 (zero_bool wr) (maps_out (zip_get h1 h2) (seven HS.out)) s hs
       rw [look_set] at ln
       rw [ownHas_at HA.out.2.2.2.2.2 h1 h3] at hst
       clear h1 h2 h3 h4
       cases hq3 : (kys (dfNames mj)).contains s.data.toList with
       | false =>
        rw [hq3] at ln hst
        have HZ := Lib.hid (HN.out (by rw [HJ.out.1,hst]; rfl))
        clear hst hq3
        go_wp2
        go_ret
        exact ⟨by rw [HZ.out]; rfl,fy,fun r hr => (by rw [HZ.out] at hr; cases hr),HS.out.drop.drop.drop.drop⟩
       | true =>
        rw [hq3] at ln hst
        have e1 : (y + 1).toNat = y.toNat + 1 := by omega
        have HJ2 : Hid (impN (ownHas l) r.f1 fx r.f0 = impN (ownHas l) r.f1 (fy ++ [(s.data.toList,dotB r.f1 s)]) (r.f0.drop (y + 1).toNat) ∧ (fy ++ [(s.data.toList,dotB r.f1 s)]).length ≤ 1000 + 256 * x.toNat + (y + 1).toNat) := Lib.hid ⟨by rw [HJ.out.1,hst,e1]; rfl,by have := HJ.out.2; rw [List.length_append,List.length_singleton,e1]; omega⟩
        have HB : Hid ((strM fy).length < maxLen) := Lib.hid (by
         have h1 := HJ.out.2
         have h2 := HA.out.2.2.1.1
         have h3 := HC.out.2.2.1
         simp only [strM,List.length_map,maxLen]
         omega)
        have HS2 := Lib.hid (And.intro hs hs)
        have z3 : (r.f1 ++ (⟨#[46]⟩ : ByteArray)).size = r.f1.size + 1 := ByteArray.size_append
        clear hst hq3 e1
        go_upto_region 11 with fail
        go_wp2_with (at_mapUpdate; refine HeldT.out ?_)
        refine ⟨?_⟩
        refine wpList_putV Tryz.underlying56 rfl _ _ _ rfl rfl _ rfl (.string (dotB r.f1 s)) rfl (six HS.out) HS2.out.1 HB.out ?_
        intro w8 h8
        rw [← strM_snoc] at h8
        have H8 := Lib.hid (six (six (six (six (six h8)))))
        clear h8 d0 d1 el lk ln r0 e0 z3
        go_wp2
        exact ⟨⟨y + 1,_,by omega,by omega,by go_num,H8,HJ2⟩,by simp only [intOf]; omega⟩
    ·have hlt' : (y < (r.f0.length : Int)) = False := eq_false hly
     have e1 : (x + 1).toNat = x.toNat + 1 := by omega
     have hN : impN (ownHas l) r.f1 fx r.f0 = some fy := by
      rw [HJ.out.1,List.drop_of_length_le (by omega)]
      rfl
     have HI2 : Hid (impI (ownHas l) fm m.im = impI (ownHas l) fy (m.im.drop (x + 1).toNat) ∧ fy.length ≤ 1000 + 256 * (x + 1).toNat) := Lib.hid ⟨by rw [HI.out.1,impI_step HG.out,hN,e1]; rfl,by have := HJ.out.2; have := HC.out.2.2.1; omega⟩
     have H9 := Lib.hid HS.out.drop
     clear hN e1
     go_wp2
     exact ⟨⟨x + 1,_,by omega,by omega,by go_num,H9,HI2⟩,by simp only [intOf]; omega⟩
  ·have hlt' : (x < (m.im.length : Int)) = False := eq_false hlt
   have HZ : Hid (impI (ownHas l) fm m.im = some fx) := Lib.hid (by
    rw [HI.out.1,List.drop_of_length_le (by omega)]
    rfl)
   go_wp2
   go_ret
   exact ⟨by rw [HZ.out]; rfl,fx,fun r hr => (by rw [HZ.out] at hr; cases hr; rfl),HR.out.drop.drop.drop⟩
end Go.Proofs.YtbjddomocggjmaaGreat.Sc
