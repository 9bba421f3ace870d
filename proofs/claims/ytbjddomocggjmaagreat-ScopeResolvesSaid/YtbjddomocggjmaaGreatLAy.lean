/- Resolve of the reference of layer 10: walked. -/
import Derived.Laws.MakeOwn
import Derived.Test.YtbjddomocggjmaaGreatLAi
import Derived.Test.YtbjddomocggjmaaGreatLAl
import Derived.Test.YtbjddomocggjmaaGreatLAw
import Derived.Test.YtbjddomocggjmaaGreatLAx
section
namespace Go.Proofs.YtbjddomocggjmaaGreat.Sc
open Go.RowKit Go.ChangeShapes Go.WideShapes Go.Proofs.YtbjddomocggjmaaGreat.Sep
open Go.Proofs.YtbjddomocggjmaaGreatW.PrintWords
variable {B : Nat} {w0 w : World} {R : HP}
def SoundK (l : List En) (K : List Bool) : Prop := ∀ K' : List UInt8 → Bool,(∀ x ∈ l,finT K' 40 x.t = true → K' (enNm x) = true) → ∀ (i : Nat) (x : En),l[i]? = some x → K[i]? = some true → K' (enNm x) = true
def StableK (l : List En) (K : List Bool) : Prop := ∀ (i : Nat) (x : En),l[i]? = some x → finT (knowR l K) 40 x.t = true → K[i]? = some true
def cntK (K : List Bool) : Nat := K.countP id
theorem know_sound {l : List En} {K : List Bool} (h : SoundK l K) {K' : List UInt8 → Bool} (hK : ∀ x ∈ l,finT K' 40 x.t = true → K' (enNm x) = true) (s : List UInt8) (hs : knowR l K s = true) : K' s = true := by
 unfold knowR at hs
 cases hf : (l.zip K).find? fun p => enNm p.1 == s with
 | none => rw [hf] at hs; cases hs
 | some p =>
  rw [hf] at hs
  have hp : p.2 = true := hs
  have hn : enNm p.1 = s := by simpa using List.find?_some hf
  obtain ⟨i,hi⟩ := List.getElem?_of_mem (List.mem_of_find?_eq_some hf)
  rw [List.getElem?_zip_eq_some] at hi
  rw [← hn]
  exact h K' hK i p.1 hi.1 (by rw [hi.2,hp])
structure InK (l : List En) (K0 K : List Bool) (i : Nat) : Prop where
 len : K.length = l.length
 sound : SoundK l K
 kept : StableK l K0 → K = K0
 prog : (K = K0 ∧ ∀ j < i, ∀ x,l[j]? = some x → finT (knowR l K0) 40 x.t = true → K0[j]? = some true) ∨ cntK K0 < cntK K
theorem cnt_set : ∀ {K : List Bool} {i : Nat},K[i]? = some false → cntK (K.set i true) = cntK K + 1
 | [],i,h => by simp at h
 | b :: K,0,h => by
  cases h
  simp [cntK]
 | b :: K,i + 1,h => by
  have := cnt_set (K := K) (i := i) (by simpa using h)
  unfold cntK at this ⊢
  rw [List.set_cons_succ,List.countP_cons,List.countP_cons,this]
  omega
theorem set_same {K : List Bool} {i : Nat} {b : Bool} (h : K[i]? = some b) : K.set i b = K := by
 apply List.ext_getElem?
 intro j
 rw [List.getElem?_set]
 split
 ·rename_i e
  subst e
  rw [h,if_pos (List.getElem?_eq_some_iff.1 h).1]
 ·rfl
theorem inK_next {l : List En} {K0 K : List Bool} {i : Nat} {x : En} {b : Bool} (h : InK l K0 K i) (hx : l[i]? = some x) (hb : K[i]? = some b) : InK l K0 (K.set i (b || finT (knowR l K) 40 x.t)) (i + 1) := by
 have step : ∀ j < i + 1,j < i ∨ j = i := fun j hj => by omega
 cases b with
 | true =>
  rw [Bool.true_or,set_same hb]
  refine ⟨h.len,h.sound,h.kept,h.prog.imp (fun ⟨e,hh⟩ => ⟨e,fun j hj y hy hf => ?_⟩) id⟩
  rcases step j hj with hj | rfl
  ·exact hh j hj y hy hf
  ·rw [← e]; exact hb
 | false =>
  rw [Bool.false_or]
  cases hf : finT (knowR l K) 40 x.t with
  | false =>
   rw [set_same hb]
   refine ⟨h.len,h.sound,h.kept,h.prog.imp (fun ⟨e,hh⟩ => ⟨e,fun j hj y hy hf2 => ?_⟩) id⟩
   rcases step j hj with hj | rfl
   ·exact hh j hj y hy hf2
   ·rw [hx] at hy
    cases hy
    rw [e,hf2] at hf
    cases hf
  | true =>
   have hc := cnt_set hb
   refine ⟨by rw [List.length_set]; exact h.len,fun K' hK j y hy hj => ?_,fun hs => ?_,.inr ?_⟩
   ·rw [List.getElem?_set] at hj
    split at hj
    ·rename_i e
     subst e
     rw [hx] at hy
     cases hy
     exact hK x (List.mem_of_getElem? hx) (finT_mono (fun s hs => know_sound h.sound hK s hs) 40 x.t hf)
    ·exact h.sound K' hK j y hy hj
   ·have e := h.kept hs
    rw [e] at hf hb
    rw [hs i x hx hf] at hb
    cases hb
   ·rcases h.prog with ⟨e, -⟩ | hp
    ·rw [hc,e]; omega
    ·omega
structure OutK (l : List En) (K : List Bool) (n : Nat) : Prop where
 len : K.length = l.length
 sound : SoundK l K
 prog : StableK l K ∨ n ≤ cntK K
theorem inK_start {l : List En} {K : List Bool} {n : Nat} (h : OutK l K n) : InK l K K 0 := ⟨h.len,h.sound,fun _ => rfl,.inl ⟨rfl,fun j hj => by omega⟩⟩
theorem outK_next {l : List En} {K0 K : List Bool} {n : Nat} (h : OutK l K0 n) (h2 : InK l K0 K l.length) : OutK l K (n + 1) := by
 refine ⟨h2.len,h2.sound, ?_⟩
 rcases h.prog with hs | hn
 ·rw [h2.kept hs]; exact .inl hs
 ·rcases h2.prog with ⟨e,hh⟩ | hc
  ·rw [e]; exact .inl fun i x hx hf => hh i (List.getElem?_eq_some_iff.1 hx).1 x hx hf
  ·exact .inr (by omega)
theorem outK_zero (l : List En) : OutK l (List.replicate l.length false) 0 := by
 refine ⟨by simp,fun K' hK i x hx hi => ?_,.inr (Nat.zero_le _)⟩
 rw [List.getElem?_replicate] at hi
 split at hi <;> cases hi
theorem know_nodup {l : List En} {K : List Bool} (hn : (l.map enNm).Nodup) (hl : K.length = l.length) {i : Nat} {x : En} (hx : l[i]? = some x) (hk : knowR l K (enNm x) = true) : K[i]? = some true := by
 unfold knowR at hk
 cases hf : (l.zip K).find? fun p => enNm p.1 == enNm x with
 | none => rw [hf] at hk; cases hk
 | some p =>
  rw [hf] at hk
  have hp : p.2 = true := hk
  have he : enNm p.1 = enNm x := by simpa using List.find?_some hf
  obtain ⟨j,hj⟩ := List.getElem?_of_mem (List.mem_of_find?_eq_some hf)
  rw [List.getElem?_zip_eq_some] at hj
  have h1 : (l.map enNm)[i]? = some (enNm x) := by rw [List.getElem?_map,hx]; rfl
  have h2 : (l.map enNm)[j]? = some (enNm x) := by rw [List.getElem?_map,hj.1,Option.map_some,he]
  have := (List.getElem?_inj (List.getElem?_eq_some_iff.1 h1).1 hn).1 (h1.trans h2.symm)
  rw [this,hj.2,hp]
theorem outK_end {l : List En} {K : List Bool} (hn : (l.map enNm).Nodup) (h : OutK l K (l.length + 1)) : (∀ i < l.length,K[i]? = some true) ↔ finB l = true := by
 rw [finB_iff hn]
 constructor
 ·intro ha K' hK x hx
  obtain ⟨i,hi⟩ := List.getElem?_of_mem hx
  exact h.sound K' hK i x hi (ha i (List.getElem?_eq_some_iff.1 hi).1)
 ·intro hF i hi
  have hs : StableK l K := by
   rcases h.prog with hs | hc
   ·exact hs
   ·have : cntK K ≤ K.length := List.countP_le_length
    rw [h.len] at this
    omega
  have hx := List.getElem?_eq_getElem hi
  exact know_nodup hn h.len hx (hF (knowR l K) (fun x hx hf => by
   obtain ⟨j,hj⟩ := List.getElem?_of_mem hx
   have hk := hs j x hj hf
   unfold knowR
   have hz : (l.zip K)[j]? = some (x,true) := by
    rw [List.getElem?_zip_eq_some]
    exact ⟨hj,hk⟩
   cases hf2 : (l.zip K).find? fun p => enNm p.1 == enNm x with
   | none =>
    have := List.find?_eq_none.1 hf2 _ (List.mem_of_getElem? hz)
    simp at this
   | some p =>
    have he : enNm p.1 = enNm x := by simpa using List.find?_some hf2
    obtain ⟨q,hq⟩ := List.getElem?_of_mem (List.mem_of_find?_eq_some hf2)
    rw [List.getElem?_zip_eq_some] at hq
    have h1 : (l.map enNm)[j]? = some (enNm x) := by rw [List.getElem?_map,hj]; rfl
    have h2 : (l.map enNm)[q]? = some (enNm x) := by rw [List.getElem?_map,hq.1,Option.map_some,he]
    have := (List.getElem?_inj (List.getElem?_eq_some_iff.1 h1).1 hn).1 (h1.trans h2.symm)
    rw [← this,hk] at hq
    show p.2 = true
    rw [← Option.some.inj hq.2]) _ (List.getElem_mem hi))
theorem info_bool : (Tryz.prog.info? 4).map (fun i => (i.zero,i.size,i.bytes)) = some (some (.bool false),1,1) := by kernel_rfl
theorem made_bools (n : Nat) : (madeCells #[Value.bool false] n).toList = (List.replicate n false).map Value.bool := by
 apply List.ext_getElem?
 intro i
 unfold madeCells
 rw [Array.toList_map,List.getElem?_map,List.getElem?_map,List.getElem?_replicate,Array.getElem?_toList,Array.getElem?_range]
 by_cases h : i < n
 ·rw [if_pos h,if_pos h]
  simp [Value.cells,Nat.mod_one]
 ·rw [if_neg h,if_neg h]
  rfl
theorem set_bools {K : List Bool} {i : Nat} (b : Bool) (hi : i < K.length) : (K.map Value.bool).take i ++ [Value.bool b] ++ (K.map Value.bool).drop (i + 1) = (K.set i b).map Value.bool := by
 rw [List.set_eq_take_append_cons_drop,if_pos hi,List.map_append,List.map_cons,List.map_take,List.map_drop]
 simp
set_option maxHeartbeats 16000000 in
set_option maxRecDepth 100000 in
theorem rfinite_calls (A : Option Addr) (c : Nat) (l : List En) (h : S w0 w R) (hC : kEn.C w0 A l.length l) (ho : ∀ x ∈ l,oS x.m ∧ oS x.n) (hd : ∀ x ∈ l,DpR 40 x.t) (hl : l.length ≤ 1000000) (hn : (l.map enNm).Nodup) :
  Calls Tryz.prog 22 #[.slice A l.length c] w fun e w' => e = .returned (.bool (finB l)) ∧ S w0 w' R := by
 have hl' : l.length ≤ 9223372036854775807 := by omega
 have HA := Lib.hid (And.intro hC (And.intro ho (And.intro hd hn)))
 obtain ⟨ib,hib,hz0,hz1,hz2⟩ := info_parts info_bool
 have hmk := run_make (P := Tryz.prog) w 94 4 ib _ Tryz.underlying94 hib hz0 .i64 .i64 l.length l.length (by omega) (Int.le_refl _) (by rw [hz2]; omega) (by omega)
 rw [hz1,Int.toNat_natCast] at hmk
 generalize hg : w.heap.size = gk at hmk
 rw [show (Value.bool false).cells = #[Value.bool false] from rfl,Nat.mul_one] at hmk
 have H : Hid (S w0 _ (RowV 4 1 (.slice (some ⟨gk,0,none⟩) l.length l.length) l.length ((List.replicate l.length false).map Value.bool) • R)) := Lib.hid (St.blkRow (alloc_at (n := gk) h (.cells (madeCells #[Value.bool false] l.length) 4) hg.symm) (Nat.le_refl _) (by simp only [maxLen]; omega) (by rw [size_madeCells,Nat.mul_one]) (.inr (Nat.le_refl _)) (by rw [made_bools]; exact List.take_of_length_le (by simp)))
 clear h hC ho hd hn hib hz0 hz1 hz2
 go_enter Tryz.func22,Tryz.ntmps22
 go_wp2
 clear hmk
 go_loopw [4] (fun v wr => ∃ (x : Int) (K : List Bool),0 ≤ x ∧ x ≤ l.length + 1 ∧ v = .int .i64 x ∧ Hid (S w0 wr (RowV 4 1 (.slice (some ⟨gk,0,none⟩) l.length l.length) l.length (K.map Value.bool) • R)) ∧ Hid (OutK l K x.toNat)) (fun v _ => l.length + 1 - (intOf v).toNat)
 case atStart => exact ⟨0,_,Int.le_refl _,by omega,rfl,H,Lib.hid (outK_zero l)⟩
 case round =>
  clear H
  obtain ⟨x,K0,hx0,hx1,rfl,HR,HO⟩ := hrel
  by_cases hlt : x ≤ l.length
  ·have q126 : (x ≤ (l.length : Int)) = True := eq_true hlt
   have HI0 := Lib.hid (inK_start HO.out)
   go_wp2
   go_loopw [5] (fun v wr => ∃ (y : Int) (K : List Bool),0 ≤ y ∧ y ≤ l.length ∧ v = .int .i64 y ∧ Hid (S w0 wr (RowV 4 1 (.slice (some ⟨gk,0,none⟩) l.length l.length) l.length (K.map Value.bool) • R)) ∧ Hid (InK l K0 K y.toNat)) (fun v _ => l.length - (intOf v).toNat)
   case atStart => exact ⟨0,_,Int.le_refl _,by omega,rfl,HR,HI0⟩
   case round =>
    clear HR HI0
    obtain ⟨y,K,hy0,hy1,rfl,HS,HI⟩ := hrel
    by_cases hly : y < l.length
    ·obtain ⟨ad,cs,eA,hcl0,hK,hcell0⟩ := Kd.C_get HA.out.1 zEn y hy0 hly
     cases eA
     have hcell : ∀ (j : Nat) (u : Value),cs[j]? = some u → w0.cell? (ad.add (y.toNat * 18 + j)) = some u := hcell0
     have HG := Lib.hid (getD_mem l zEn y hy0 hly)
     generalize l.getD y.toNat zEn = r at *
     obtain ⟨ts,ee,hT⟩ := kEn_open (show kEn.K w0 r cs from hK)
     have HK := Lib.hid (And.intro hT (kTy.K_len hT : ts.length = 15))
     have HF : Hid (∀ (j : Nat) (v : Value),ts[j]? = some v → wr.cell? ((⟨(ad.add (y.toNat * 18)).block,(ad.add (y.toNat * 18)).off + 3,none⟩ : Addr).add j) = some v) := Lib.hid fun j v hv => by
      have := pw_cell_below HS.out.below (hcell (3 + j) v (by rw [ee,Nat.add_comm]; exact hv))
      rw [add_field ad _ _ (by omega), ← Nat.add_assoc] at this
      rw [WideShapes.add_plain]; exact this
     have hyl : y.toNat < K.length := by rw [HI.out.len]; omega
     have hb := List.getElem?_eq_getElem hyl
     generalize K[y.toNat] = b at hb
     have HB := Lib.hid (And.intro hb hyl)
     obtain ⟨ak,ek,hck⟩ := know_cell HS.out hb
     cases ek
     rw [Sep.add_plain] at hck
     have p126 := eq_true hy0
     have q127 : (y < (l.length : Int)) = True := eq_true hly
     clear hcell hcell0 hcl0 hK ee hT hb hyl
     cases b with
     | true =>
      have HI2 : Hid (InK l K0 K (y + 1).toNat) := Lib.hid (by
       have h := inK_next HI.out HG.out HB.out.1
       rw [Bool.true_or,set_same HB.out.1] at h
       rwa [show (y + 1).toNat = y.toNat + 1 by omega])
      have HS0 : Hid (S w0 wr (RowV 4 1 (.slice (some ⟨gk,0,none⟩) l.length l.length) l.length (K.map Value.bool) • R)) := HS
      go_wp2_with (refine held_store _ _ _ rfl ?_)
      refine ⟨?_⟩
      refine wpList_store_row rfl rfl [.bool true] (off := y.toNat) (by simp [go_sem]) rfl rfl (by kernel_rfl) (by simp [Value.oneCell']) HS.out (by simp only [List.length_cons,List.length_nil]; omega) ?_
      intro w5 h5
      have H5 := Lib.hid h5
      rw [show [Value.bool true].length = 1 from rfl,set_bools true HB.out.2,set_same HB.out.1] at H5
      clear h5 hck
      go_wp2
      exact ⟨⟨y + 1,_,by omega,by omega,by go_num,H5,HI2⟩,by simp only [intOf]; omega⟩
     | false =>
      have HI2 : Hid (InK l K0 (K.set y.toNat (finT (knowR l K) 40 r.t)) (y + 1).toNat) := Lib.hid (by
       have h := inK_next HI.out HG.out HB.out.1
       rw [Bool.false_or] at h
       rwa [show (y + 1).toNat = y.toNat + 1 by omega])
      go_wp2_with (refine held_load 38 _ rfl ?_)
      refine ⟨?_⟩
      refine wpList_load_cells_v (by rfl) 38 _ rfl _ rfl ts HF.out _ Tryz.underlying38 rfl (by rw [HK.out.2]; kernel_rfl) ?_
      go_wp2_with fail
      refine (rfin_at (some ad) c l HA.out.1 HA.out.2.1 (some ⟨gk,0,none⟩) l.length K HI.out.len 40 _ _ r.t ts HS.out HK.out.1 (HA.out.2.2.1 r (List.mem_of_getElem? HG.out))).mono ?_
      rintro e w4 ⟨rfl,h4⟩
      have H4 := Lib.hid h4
      clear h4 HS hck
      generalize finT (knowR l K) 40 r.t = bb at *
      go_wp2_with (refine held_store _ _ _ rfl ?_)
      refine ⟨?_⟩
      refine wpList_store_row rfl rfl [.bool bb] (off := y.toNat) (by simp [go_sem]) rfl rfl (by kernel_rfl) (by simp [Value.oneCell']) H4.out (by simp only [List.length_cons,List.length_nil]; omega) ?_
      intro w5 h5
      have H5 := Lib.hid h5
      rw [show [Value.bool bb].length = 1 from rfl,set_bools bb HB.out.2] at H5
      clear h5
      go_wp2
      exact ⟨⟨y + 1,_,by omega,by omega,by go_num,H5,HI2⟩,by simp only [intOf]; omega⟩
    ·have hly' : (y < (l.length : Int)) = False := eq_false hly
     have HO2 : Hid (OutK l K (x + 1).toNat) := Lib.hid (by
      have h := HI.out
      rw [show y.toNat = l.length by omega] at h
      rw [show (x + 1).toNat = x.toNat + 1 by omega]
      exact outK_next HO.out h)
     go_wp2
     exact ⟨⟨x + 1,_,by omega,by omega,by go_num,HS,HO2⟩,by simp only [intOf]; omega⟩
  ·have hlt' : (x ≤ (l.length : Int)) = False := eq_false hlt
   have HE := Lib.hid (outK_end HA.out.2.2.2 (by have h := HO.out; rwa [show x.toNat = l.length + 1 by omega] at h))
   have HKl := Lib.hid HO.out.len
   go_wp2
   go_loopw [6] (fun v wr => ∃ (y : Int),0 ≤ y ∧ y ≤ l.length ∧ v = .int .i64 y ∧ Hid (S w0 wr (RowV 4 1 (.slice (some ⟨gk,0,none⟩) l.length l.length) l.length (K0.map Value.bool) • R)) ∧ Hid (∀ i < y.toNat,K0[i]? = some true)) (fun v _ => l.length - (intOf v).toNat)
   case atStart => exact ⟨0,Int.le_refl _,by omega,rfl,HR,Lib.hid (fun i hi => by omega)⟩
   case round =>
    clear HR
    obtain ⟨y,hy0,hy1,rfl,HS,HT⟩ := hrel
    by_cases hly : y < l.length
    ·have hyl : y.toNat < K0.length := by rw [HKl.out]; omega
     have hb := List.getElem?_eq_getElem hyl
     generalize K0[y.toNat] = b at hb
     have HB := Lib.hid hb
     obtain ⟨ak,ek,hck⟩ := know_cell HS.out hb
     cases ek
     rw [Sep.add_plain] at hck
     have p126 := eq_true hy0
     have q127 : (y < (l.length : Int)) = True := eq_true hly
     clear hb hyl
     cases b with
     | true =>
      have HT2 : Hid (∀ i < (y + 1).toNat,K0[i]? = some true) := Lib.hid fun i hi => by
       by_cases hi2 : i < y.toNat
       ·exact HT.out i hi2
       ·rw [show i = y.toNat by omega]; exact HB.out
      go_wp2
      exact ⟨⟨y + 1,by omega,by omega,by go_num,HS,HT2⟩,by simp only [intOf]; omega⟩
     | false =>
      have HZ : Hid (finB l = false) := Lib.hid (by
       rw [Bool.eq_false_iff]
       intro hf
       have := HE.out.2 hf y.toNat (by omega)
       rw [HB.out] at this
       cases this)
      go_wp2
      go_ret
      exact ⟨by rw [HZ.out]; rfl,HS.out.drop⟩
    ·have hly' : (y < (l.length : Int)) = False := eq_false hly
     have HZ : Hid (finB l = true) := Lib.hid (HE.out.1 fun i hi => HT.out i (by omega))
     go_wp2
     go_ret
     exact ⟨by rw [HZ.out]; rfl,HS.out.drop⟩
end Go.Proofs.YtbjddomocggjmaaGreat.Sc
end
section
namespace Go.Proofs.YtbjddomocggjmaaGreat.Sc
open Go.RowKit Go.ChangeShapes Go.WideShapes Go.Proofs.YtbjddomocggjmaaGreat.Sep
open Go.Proofs.YtbjddomocggjmaaGreatW.PrintWords
variable {B : Nat} {w0 w : World} {R : HP}
theorem dp_dpR : ∀ (n : Nat) (t : Ty),Dp n t → DpR n t
 | 0,_,h => h.elim
 | n + 1,t,h => ⟨trivial,fun p hp => dp_dpR n p.t (h.2.1 p hp),fun x hx => dp_dpR n x (h.2.2.2 x hx)⟩
theorem rfinite_at {B : Nat} (A : Option Addr) (c : Nat) (l : List En) (h : St B w0 w R) (hC : kEn.C w A l.length l) (ho : ∀ x ∈ l,oS x.m ∧ oS x.n) (hd : ∀ x ∈ l,DpR 40 x.t) (hl : l.length ≤ 1000000) (hn : (l.map enNm).Nodup) :
  Calls Tryz.prog 22 #[.slice A l.length c] w fun e w' => e = .returned (.bool (finB l)) ∧ St B w0 w' R :=
 (rfinite_calls (w0 := w) (R := emp) A c l (St.start w) hC ho hd hl hn).mono fun _ _ ⟨h1,h2⟩ => ⟨h1,(nest h h2).drop⟩
set_option maxHeartbeats 16000000 in
set_option maxRecDepth 100000 in
theorem rresolve_calls (A : Option Addr) (c : Nat) (l : List Md) (h : S w0 w R) (hC : kMd.C w0 A l.length l) (ho : ∀ m ∈ l,oMd m) :
  Calls Tryz.prog 7 #[.slice A l.length c] w fun e w' => ∃ A' n' c' xk,e = .returned (.tuple #[.slice A' n' c',.int .i64 (resP l).1]) ∧ n' = (resP l).2.length ∧
   S w0 w' (RowV 46 18 (.slice A' n' c') n' xk • (Vw w0 w0.heap.size (fun W => Reps (kEn.K W) 18 (resP l).2 xk) • R)) := by
 have hl' : l.length ≤ 9223372036854775807 := hC.2.1
 have HA := Lib.hid (And.intro hC ho)
 have H := Lib.hid h
 have HS : Hid (S w0 w (RowV 9 1 (.slice none 0 0) ([] : List ByteArray).length (strV []) • R)) := Lib.hid (h.nil _ _)
 clear h hC ho
 by_cases q0 : 256 < l.length
 ·have p0 : ((256 : Int) < (l.length : Int)) = True := eq_true (by omega)
  have HZ : Hid (resP l = (1,[])) := Lib.hid (res_bad (by unfold badB; rw [decide_eq_true q0]; rfl))
  clear q0
  go_enter Tryz.func7,Tryz.ntmps7
  go_wp2
  refine bodyPost_ret (v := .tuple #[.slice none 0 0,.int .i64 1]) (by simp [results,Tryz.results7,go_sem]) rfl ?_
  exact ⟨none,0,0,[],by rw [HZ.out],by rw [HZ.out]; rfl,(Vw.base (H.out) (fun wv _ => by rw [HZ.out]; exact Reps.none _ _)).nil _ _⟩
 have p0 : ((256 : Int) < (l.length : Int)) = False := eq_false (by omega)
 have HLn : Hid (l.length ≤ 256) := Lib.hid (by omega)
 clear q0 H
 go_enter Tryz.func7,Tryz.ntmps7
 go_wp2
 clear p0
 go_loopw [4,5] (fun vo v wr => ∃ (va : Value) (x : Int) (L : List ByteArray),va = vo ∧ 0 ≤ x ∧ x ≤ l.length ∧ v = .int .i64 x ∧ Hid (S w0 wr (RowV 9 1 va L.length (strV L) • R)) ∧ Hid (L = mdNames (l.take x.toNat) ∧ ∀ m ∈ l.take x.toNat,mdB m = true)) (fun _ v _ => l.length - (intOf v).toNat)
 case atStart => exact ⟨_,0,[],rfl,Int.le_refl _,by omega,rfl,HS,Lib.hid ⟨by simp [mdNames],by simp⟩⟩
 case round =>
  clear HS
  obtain ⟨va,x,L,rfl,hx0,hx1,rfl,HR,HT⟩ := hrel
  by_cases hlt : x < l.length
  ·obtain ⟨ad,cs,eA,hcl0,hK,hcell0⟩ := Kd.C_get HA.out.1 zMd x hx0 hlt
   cases eA
   have hcell : ∀ (j : Nat) (u : Value),cs[j]? = some u → w0.cell? (ad.add (x.toNat * 4 + j)) = some u := hcell0
   have HG := Lib.hid (getD_mem l zMd x hx0 hlt)
   generalize l.getD x.toNat zMd = r at *
   obtain ⟨A2,c2,A3,c3,rfl, -⟩ := kMd_open (show kMd.K w0 r cs from hK)
   have hrm := List.mem_of_getElem? HG.out
   have HK := Lib.hid (And.intro (show kMd.K w0 r [.string r.n,.bool r.au,.slice A2 r.im.length c2,.slice A3 r.df.length c3] from hK) (And.intro (HA.out.2 r hrm) hrm))
   have HCl := Lib.hid hcell
   have p126 := eq_true hx0
   have q126 : (x < (l.length : Int)) = True := eq_true hlt
   clear hcell hcell0 hcl0 hK hrm
   go_wp2_with (refine held_load 44 _ rfl ?_)
   refine ⟨?_⟩
   refine wpList_load_cells rfl 44 _ rfl _ rfl [.string r.n,.bool r.au,.slice A2 r.im.length c2,.slice A3 r.df.length c3] (elem_cells HR.out.below HCl.out) _ Tryz.underlying44 rfl (by kernel_rfl) ?_
   go_wp2_with fail
   refine (rmod_calls r _ HR.out HK.out.1 HK.out.2.1).mono ?_
   rintro e w2 ⟨rfl,h2⟩
   have H2 := Lib.hid h2
   clear h2 HR
   cases hm : mdB r with
   | false =>
    have HZ : Hid (resP l = (1,[])) := Lib.hid (res_bad (by
     unfold badB
     rw [Bool.or_eq_true]
     exact .inr (List.any_eq_true.2 ⟨r,HK.out.2.2,by rw [hm]; rfl⟩)))
    clear hm
    go_wp2
    refine bodyPost_ret (v := .tuple #[.slice none 0 0,.int .i64 1]) (by simp [results,Tryz.results7,go_sem]) rfl ?_
    exact ⟨none,0,0,[],by rw [HZ.out],by rw [HZ.out]; rfl,(Vw.base (H2.out.drop) (fun wv _ => by rw [HZ.out]; exact Reps.none _ _)).nil _ _⟩
   | true =>
    have HT2 : Hid (L ++ [r.n] = mdNames (l.take (x + 1).toNat) ∧ ∀ m ∈ l.take (x + 1).toNat,mdB m = true) := Lib.hid (by
     rw [take_nextR hx0 HG.out,mdNames,List.map_append,HT.out.1]
     refine ⟨rfl,fun m hm2 => ?_⟩
     rcases List.mem_append.1 hm2 with hm2 | hm2
     ·exact HT.out.2 m hm2
     ·rw [List.mem_singleton.1 hm2]; exact hm)
    have d0 : w2.cell? (ad.add (x.toNat * 4)) = some (.string r.n) := pw_cell_below H2.out.below (HCl.out 0 _ rfl)
    have hLb : Hid (L.length + 1 ≤ 257) := Lib.hid (by have := HLn.out; rw [HT.out.1,mdNames,List.length_map,List.length_take]; omega)
    clear hm
    go_wp2_with (at_builtin; refine Held.out ?_)
    refine ⟨?_⟩
    refine wpList_append_blk (by rfl) _ _ Tryz.underlying34 info_strs rfl (by decide) rfl va L.length (strV L) rfl (cs := [.string r.n]) (H2.out.alloc _) rfl rfl (by simp [Value.oneCell']) (by have := hLb.out; simp only [maxLen]; omega) (by have := hLb.out; omega) ?_
    intro v5 w5 h5
    have H5 : Hid (S w0 w5 (RowV 9 1 v5 (L ++ [r.n]).length (strV (L ++ [r.n])) • R)) := Lib.hid (by
     have := h5.two.drop
     rw [strV_snoc] at this
     rwa [List.length_append,List.length_singleton])
    clear h5 d0 H2
    go_wp2
    exact ⟨⟨_,x + 1,_,rfl,by omega,by omega,by go_num,H5,HT2⟩,by simp only [intOf]; omega⟩
  ·have hlt' : (x < (l.length : Int)) = False := eq_false hlt
   have HM : Hid (L = mdNames l ∧ badB l = false) := Lib.hid (by
    have h := HT.out
    rw [List.take_of_length_le (by omega)] at h
    exact ⟨h.1,bad_false.2 ⟨HLn.out,h.2⟩⟩)
   obtain ⟨A5,c5,rfl,hC5⟩ := str_C (l := L) rfl HR.out
   have HTw := Lib.hid (rtwice_at A5 c5 L HR.out hC5)
   clear hC5
   go_wp2_with fail
   refine HTw.out.mono ?_
   rintro e w6 ⟨rfl,h6⟩
   have H6 := Lib.hid h6.drop
   clear h6 HTw HR HT
   cases hn : onceB L with
   | false =>
    have HZ : Hid (resP l = (7,[])) := Lib.hid (res_dup2 HM.out.2 (dup_once (by rw [← HM.out.1]; exact hn)))
    clear hn
    go_wp2
    refine bodyPost_ret (v := .tuple #[.slice none 0 0,.int .i64 7]) (by simp [results,Tryz.results7,go_sem]) rfl ?_
    exact ⟨none,0,0,[],by rw [HZ.out],by rw [HZ.out]; rfl,(Vw.base (H6.out) (fun wv _ => by rw [HZ.out]; exact Reps.none _ _)).nil _ _⟩
   | true =>
    have HO : Hid (onceB (mdNames l) = true) := Lib.hid (by rw [← HM.out.1]; exact hn)
    clear hn
    go_wp2
    have HRs : Hid (∀ m ∈ l,mdB m = true) := Lib.hid (bad_false.1 HM.out.2).2
    have HW : Hid (S w0 w6 (RowV 46 18 (.slice none 0 0) ([] : List En).length [] • (Vw w0 w0.heap.size (fun W => Reps (kEn.K W) 18 ([] : List En) []) • R))) := Lib.hid ((Vw.base H6.out (fun wv _ => Reps.none _ _)).nil _ _)
    clear H6
    go_loopw [6,7] (fun vo v wr => ∃ (va : Value) (x : Int) (y : List En) (xk : List Value),va = vo ∧ 0 ≤ x ∧ x ≤ l.length ∧ v = .int .i64 x ∧ Hid (S w0 wr (RowV 46 18 va y.length xk • (Vw w0 w0.heap.size (fun W => Reps (kEn.K W) 18 y xk) • R))) ∧ Hid (∃ z,mapO (modP (ownHas l)) (l.take x.toNat) = some z ∧ y = z.flatten ∧ y.length ≤ 256 * x.toNat ∧ ∀ m ∈ l.take x.toNat,onceB (dfNames m) = true)) (fun _ v _ => l.length - (intOf v).toNat)
    case atStart => exact ⟨_,0,[],[],rfl,Int.le_refl _,by omega,rfl,HW,Lib.hid ⟨[],rfl,rfl,by simp,by simp⟩⟩
    case round =>
     clear HW
     obtain ⟨va,x,y,xk,rfl,hx0,hx1,rfl,HR,HY⟩ := hrel
     by_cases hlt : x < l.length
     ·obtain ⟨ad,cs,eA,hcl0,hK,hcell0⟩ := Kd.C_get HA.out.1 zMd x hx0 hlt
      cases eA
      have hcell : ∀ (j : Nat) (u : Value),cs[j]? = some u → w0.cell? (ad.add (x.toNat * 4 + j)) = some u := hcell0
      have HG := Lib.hid (getD_mem l zMd x hx0 hlt)
      generalize l.getD x.toNat zMd = r at *
      obtain ⟨A2,c2,A3,c3,rfl, -, -, -,g3⟩ := kMd_open (show kMd.K w0 r cs from hK)
      have hrm := List.mem_of_getElem? HG.out
      have HKm := Lib.hid (And.intro (show kMd.K w0 r [.string r.n,.bool r.au,.slice A2 r.im.length c2,.slice A3 r.df.length c3] from hK) (And.intro (HA.out.2 r hrm) hrm))
      have HH := Lib.hid (mdB_has (HRs.out r hrm))
      have HG3 := Lib.hid g3
      have HCl := Lib.hid hcell
      have hl3 : r.df.length ≤ 9223372036854775807 := g3.2.1
      have p126 := eq_true hx0
      have q126 : (x < (l.length : Int)) = True := eq_true hlt
      clear hcell hcell0 hcl0 hK hrm g3
      go_wp2_with (refine held_load 44 _ rfl ?_)
      refine ⟨?_⟩
      refine wpList_load_cells rfl 44 _ rfl _ rfl [.string r.n,.bool r.au,.slice A2 r.im.length c2,.slice A3 r.df.length c3] (elem_cells HR.out.below HCl.out) _ Tryz.underlying44 rfl (by kernel_rfl) ?_
      go_wp2_with fail
      refine (rheader_calls (some ad) c l r _ HR.out HA.out.1 HKm.out.1 HH.out.2.1 HH.out.1 HH.out.2.2.1).mono ?_
      rintro e w7 ⟨rfl,h7⟩
      have H7 := Lib.hid h7
      clear h7 HR
      cases hh : headB l r with
      | false =>
       have HZ : Hid (resP l = (7,[])) := Lib.hid (by
        cases hd : dupB l with
        | true => exact res_dup2 HM.out.2 hd
        | false =>
         rcases head_false hh with h1 | h1
         ·exact res_dup2 HM.out.2 (dup_mem HKm.out.2.2 h1)
         ·exact res_stuck HM.out.2 hd HKm.out.2.2 h1)
       clear hh
       go_wp2
       refine bodyPost_ret (v := .tuple #[.slice none 0 0,.int .i64 7]) (by simp [results,Tryz.results7,go_sem]) rfl ?_
       exact ⟨none,0,0,[],by rw [HZ.out],by rw [HZ.out]; rfl,(Vw.base (H7.out.drop.drop) (fun wv _ => by rw [HZ.out]; exact Reps.none _ _)).nil _ _⟩
      | true =>
       have HHd := Lib.hid (head_true hh)
       clear hh
       have HR0 : Hid (S w0 w7 (RowV 46 18 va (y.length + ([] : List En).length) xk • (Vw w0 w0.heap.size (fun W => Reps (kEn.K W) 18 (y ++ []) xk) • R))) := Lib.hid (by rw [List.append_nil]; exact H7.out)
       clear H7
       go_wp2
       go_loopw [6,8] (fun vo v wr => ∃ (va : Value) (k : Int) (ys : List En) (xj : List Value),va = vo ∧ 0 ≤ k ∧ k ≤ r.df.length ∧ v = .int .i64 k ∧ Hid (S w0 wr (RowV 46 18 va (y.length + ys.length) xj • (Vw w0 w0.heap.size (fun W => Reps (kEn.K W) 18 (y ++ ys) xj) • R))) ∧ Hid (mapO (enOf (rlook r) r) (r.df.take k.toNat) = some ys)) (fun _ v _ => r.df.length - (intOf v).toNat)
       case atStart => exact ⟨_,0,[],xk,rfl,Int.le_refl _,by omega,rfl,HR0,Lib.hid rfl⟩
       case round =>
        clear HR0
        obtain ⟨va,k,ys,xj,rfl,hk0,hk1,rfl,HR,HYs⟩ := hrel
        have HMc : Hid (∀ W,Below w0.heap.size w0 W → ∀ (j : Nat) (v : Value),([.string r.n,.bool r.au,.slice A2 r.im.length c2,.slice A3 r.df.length c3] : List Value)[j]? = some v → W.cell? ((ad.add (x.toNat * 4)).add j) = some v) := Lib.hid fun W hW => elem_cells hW HCl.out
        have HM3 : Hid (∀ W,Below w0.heap.size w0 W → W.cell? ⟨(ad.add (x.toNat * 4)).block,(ad.add (x.toNat * 4)).off + 3,none⟩ = some (.slice A3 r.df.length c3)) := Lib.hid fun W hW => by
         rw [← add_field ad _ 3 (by decide)]
         exact pw_cell_below hW (HCl.out 3 _ rfl)
        have m3 := HM3.out _ HR.out.below
        by_cases hlk : k < r.df.length
        ·obtain ⟨ad3,ds,eA3,hcl3,hKd,hcell3⟩ := Kd.C_get HG3.out zDf k hk0 hlk
         cases eA3
         have hcd : ∀ (j : Nat) (u : Value),ds[j]? = some u → w0.cell? (ad3.add (k.toNat * 16 + j)) = some u := hcell3
         have HGd := Lib.hid (getD_mem r.df zDf k hk0 hlk)
         generalize r.df.getD k.toNat zDf = d at *
         obtain ⟨ts,hD⟩ := df_cells (show kDf.K w0 d ds from hKd)
         have hdm := List.mem_of_getElem? HGd.out
         have HK : Hid (kTy.K w0 d.t ts ∧ ts.length = 15) := Lib.hid (And.intro hD.kt hD.tlen)
         have HO := Lib.hid (And.intro (HKm.out.2.1.2.2.2 d hdm) (And.intro (HH.out.2.2.2 d hdm) hdm))
         have HF : Hid (∀ W,Below w0.heap.size w0 W → ∀ (j : Nat) (v : Value),ts[j]? = some v → W.cell? ((⟨(ad3.add (k.toNat * 16)).block,(ad3.add (k.toNat * 16)).off + 1,none⟩ : Addr).add j) = some v) := Lib.hid fun W hW j v hv => by
          have := pw_cell_below hW (hcd (1 + j) v (hD.typ j v hv))
          rw [add_field ad3 _ _ (by omega), ← Nat.add_assoc] at this
          rw [WideShapes.add_plain]; exact this
         have HDn : Hid (∀ W,Below w0.heap.size w0 W → W.cell? (ad3.add (k.toNat * 16)) = some (.string d.n)) := Lib.hid fun W hW => pw_cell_below hW (hcd 0 _ hD.n)
         have p127 := eq_true hk0
         have q127 : (k < (r.df.length : Int)) = True := eq_true hlk
         clear hcd hcell3 hcl3 hKd hD hdm
         go_upto_region 21 with fail
         try simp only [Act.put]
         go_cut [9,10] from 59 to 75 (fun s8 s9 wx => ∃ (gx : Nat) (qs : List Value),s8 = .pointer (some ⟨gx,0,none⟩) ∧ s9 = .bool (typP (rlook r) 40 d.t).isSome ∧ Hid (qs.length = 15 ∧ ∀ u ∈ qs,u.oneCell' = true) ∧ Hid (S w0 wx (Blk gx (.cells qs.toArray 38) • (Vw w0 w0.heap.size (fun W => ∀ r',typP (rlook r) 40 d.t = some r' → kTy.K W r' qs) • (RowV 46 18 va (y.length + ys.length) xj • (Vw w0 w0.heap.size (fun W => Reps (kEn.K W) 18 (y ++ ys) xj) • R))))))
         case first =>
          refine wp_region_held_drew (S := fun W => Hid (∀ (j : Nat) (v : Value),([.string r.n,.bool r.au,.slice A2 r.im.length c2,.slice (some ad3) r.df.length c3] : List Value)[j]? = some v → W.cell? ((ad.add (x.toNat * 4)).add j) = some v) ∧ Hid (∀ (j : Nat) (v : Value),ts[j]? = some v → W.cell? ((⟨(ad3.add (k.toNat * 16)).block,(ad3.add (k.toNat * 16)).off + 1,none⟩ : Addr).add j) = some v) ∧ W.cell? ⟨(ad.add (x.toNat * 4)).block,(ad.add (x.toNat * 4)).off + 3,none⟩ = some (.slice (some ad3) r.df.length c3)) (by kernel_rfl) ?_ (fun hHeld => ?_)
          ·exact ⟨Lib.hid (HMc.out _ (HR.out.drew).below),Lib.hid (HF.out _ (HR.out.drew).below),HM3.out _ (HR.out.drew).below⟩
          refine wpAnyH_take (i := 0) (oi := ⟨some 60,.move (.tmp 0),22,"ref.go:147",#[],none⟩) (v := ?_) rfl (by kernel_rfl) (by kernel_rfl) (by kernel_rfl) (fun _ _ _ h => h) (Or.inl ⟨by rfl, ?_⟩) (by assumption) ?_
          rotate_left 1
          ·intro w hSw
           try dsimp only at hSw
           go_simp
           all_goals with_reducible rfl
          try simp only [Act.put,List.setIfInBounds_toArray,List.set_cons_succ,List.set_cons_zero]
          refine wpAnyH_take (i := 1) (oi := ⟨some 61,.move (.tmp 7),3,"ref.go:147",#[],none⟩) (v := ?_) rfl (by kernel_rfl) (by kernel_rfl) (by kernel_rfl) (fun _ _ _ h => h) (Or.inl ⟨by rfl, ?_⟩) (by assumption) ?_
          rotate_left 1
          ·intro w hSw
           try dsimp only at hSw
           go_simp
           all_goals with_reducible rfl
          try simp only [Act.put,List.setIfInBounds_toArray,List.set_cons_succ,List.set_cons_zero]
          refine wpAnyH_take (i := 2) (oi := ⟨some 62,.indexAddr 22 (.tmp 60) (.tmp 61),0,"ref.go:147",#[⟨0,.data⟩,⟨1,.data⟩],none⟩) (v := ?_) rfl (by kernel_rfl) (by kernel_rfl) (by kernel_rfl) (fun _ _ _ h => h) (Or.inl ⟨by rfl, ?_⟩) (by assumption) ?_
          rotate_left 1
          ·intro w hSw
           try dsimp only at hSw
           go_simp
           all_goals with_reducible rfl
          try simp only [Act.put,List.setIfInBounds_toArray,List.set_cons_succ,List.set_cons_zero]
          refine wpAnyH_take (i := 3) (oi := ⟨some 63,.load 44 (.tmp 62),44,"ref.go:147",#[⟨2,.data⟩],none⟩) (v := .agg ([.string r.n,.bool r.au,.slice A2 r.im.length c2,.slice (some ad3) r.df.length c3] : List Value).toArray) rfl (by kernel_rfl) (by kernel_rfl) (by kernel_rfl) (fun _ _ _ h => h) (yields_loadR (by rfl) 44 _ rfl (ad.add (x.toNat * 4)) rfl [.string r.n,.bool r.au,.slice A2 r.im.length c2,.slice (some ad3) r.df.length c3] (fun w hS => hS.1.out) _ Tryz.underlying44 rfl (by rw [(rfl : ([.string r.n,.bool r.au,.slice A2 r.im.length c2,.slice (some ad3) r.df.length c3] : List Value).length = 4)]; kernel_rfl)) (by assumption) ?_
          try simp only [Act.put,List.setIfInBounds_toArray,List.set_cons_succ,List.set_cons_zero]
          refine wpAnyH_take (i := 4) (oi := ⟨some 64,.move (.tmp 0),22,"ref.go:147",#[],none⟩) (v := ?_) rfl (by kernel_rfl) (by kernel_rfl) (by kernel_rfl) (fun _ _ _ h => h) (Or.inl ⟨by rfl, ?_⟩) (by assumption) ?_
          rotate_left 1
          ·intro w hSw
           try dsimp only at hSw
           go_simp
           all_goals with_reducible rfl
          try simp only [Act.put,List.setIfInBounds_toArray,List.set_cons_succ,List.set_cons_zero]
          refine wpAnyH_take (i := 5) (oi := ⟨some 65,.move (.tmp 7),3,"ref.go:147",#[],none⟩) (v := ?_) rfl (by kernel_rfl) (by kernel_rfl) (by kernel_rfl) (fun _ _ _ h => h) (Or.inl ⟨by rfl, ?_⟩) (by assumption) ?_
          rotate_left 1
          ·intro w hSw
           try dsimp only at hSw
           go_simp
           all_goals with_reducible rfl
          try simp only [Act.put,List.setIfInBounds_toArray,List.set_cons_succ,List.set_cons_zero]
          refine wpAnyH_take (i := 6) (oi := ⟨some 66,.indexAddr 22 (.tmp 64) (.tmp 65),0,"ref.go:147",#[⟨4,.data⟩,⟨5,.data⟩],none⟩) (v := ?_) rfl (by kernel_rfl) (by kernel_rfl) (by kernel_rfl) (fun _ _ _ h => h) (Or.inl ⟨by rfl, ?_⟩) (by assumption) ?_
          rotate_left 1
          ·intro w hSw
           try dsimp only at hSw
           go_simp
           all_goals with_reducible rfl
          try simp only [Act.put,List.setIfInBounds_toArray,List.set_cons_succ,List.set_cons_zero]
          refine wpAnyH_take (i := 7) (oi := ⟨some 67,.fieldAddr 44 (.tmp 66) 3,0,"ref.go:147",#[⟨6,.data⟩],none⟩) (v := ?_) rfl (by kernel_rfl) (by kernel_rfl) (by kernel_rfl) (fun _ _ _ h => h) (Or.inl ⟨by rfl, ?_⟩) (by assumption) ?_
          rotate_left 1
          ·intro w hSw
           try dsimp only at hSw
           go_simp
           all_goals with_reducible rfl
          try simp only [Act.put,List.setIfInBounds_toArray,List.set_cons_succ,List.set_cons_zero]
          refine wpAnyH_take (i := 8) (oi := ⟨some 68,.load 41 (.tmp 67),41,"ref.go:147",#[⟨7,.data⟩],none⟩) (v := ?_) rfl (by kernel_rfl) (by kernel_rfl) (by kernel_rfl) (fun _ _ _ h => h) (Or.inl ⟨by rfl, ?_⟩) (by assumption) ?_
          rotate_left 1
          ·intro w hSw
           try dsimp only at hSw
           go_simp
           all_goals with_reducible rfl
          try simp only [Act.put,List.setIfInBounds_toArray,List.set_cons_succ,List.set_cons_zero]
          refine wpAnyH_take (i := 9) (oi := ⟨some 69,.move (.tmp 8),3,"ref.go:147",#[],none⟩) (v := ?_) rfl (by kernel_rfl) (by kernel_rfl) (by kernel_rfl) (fun _ _ _ h => h) (Or.inl ⟨by rfl, ?_⟩) (by assumption) ?_
          rotate_left 1
          ·intro w hSw
           try dsimp only at hSw
           go_simp
           all_goals with_reducible rfl
          try simp only [Act.put,List.setIfInBounds_toArray,List.set_cons_succ,List.set_cons_zero]
          refine wpAnyH_take (i := 10) (oi := ⟨some 70,.indexAddr 41 (.tmp 68) (.tmp 69),0,"ref.go:147",#[⟨8,.data⟩,⟨9,.data⟩],none⟩) (v := ?_) rfl (by kernel_rfl) (by kernel_rfl) (by kernel_rfl) (fun _ _ _ h => h) (Or.inl ⟨by rfl, ?_⟩) (by assumption) ?_
          rotate_left 1
          ·intro w hSw
           try dsimp only at hSw
           go_simp
           all_goals with_reducible rfl
          try simp only [Act.put,List.setIfInBounds_toArray,List.set_cons_succ,List.set_cons_zero]
          refine wpAnyH_take (i := 11) (oi := ⟨some 71,.fieldAddr 40 (.tmp 70) 1,0,"ref.go:147",#[⟨10,.data⟩],none⟩) (v := ?_) rfl (by kernel_rfl) (by kernel_rfl) (by kernel_rfl) (fun _ _ _ h => h) (Or.inl ⟨by rfl, ?_⟩) (by assumption) ?_
          rotate_left 1
          ·intro w hSw
           try dsimp only at hSw
           go_simp
           all_goals with_reducible rfl
          try simp only [Act.put,List.setIfInBounds_toArray,List.set_cons_succ,List.set_cons_zero]
          refine wpAnyH_take (i := 12) (oi := ⟨some 72,.load 38 (.tmp 71),38,"ref.go:147",#[⟨11,.data⟩],none⟩) (v := .agg (ts : List Value).toArray) rfl (by kernel_rfl) (by kernel_rfl) (by kernel_rfl) (fun _ _ _ h => h) (yields_loadR (by rfl) 38 _ rfl (⟨(ad3.add (k.toNat * 16)).block,(ad3.add (k.toNat * 16)).off + 1,none⟩) rfl ts (fun w hS => hS.2.1.out) _ Tryz.underlying38 rfl (by rw [HK.out.2]; kernel_rfl)) (by assumption) ?_
          try simp only [Act.put,List.setIfInBounds_toArray,List.set_cons_succ,List.set_cons_zero]
          refine wpAnyH_ready (rs := [13,17]) (by kernel_rfl) (by simp) ?_
          refine AllReadyH.cons (o := ⟨some 73,.call { callee := .value (.func 21),args := #[.tmp 63,.tmp 72],argTypes := #[44,38] },62,"ref.go:147",#[⟨3,.data⟩,⟨12,.data⟩],none⟩) rfl (fun K hK => ?_) (AllReadyH.cons (o := ⟨some 9,.alloc 38,0,"ref.go:147",#[],none⟩) rfl (fun K hK => ?_) AllReadyH.nil)
          ·go_simp
           refine (named_at r _ HKm.out.1 HKm.out.2.1.1 (fun x hx => (HKm.out.2.1.2.1.2 x hx).2.2) 40 _ _ d.t ts HR.out.drew HK.out.1 HO.out.1.2 HO.out.2.1).mono ?_
           rintro e w5 ⟨qs,hq1,hq2,rfl,h5⟩
           refine hK.out _ _ ?_ (fun hHeld => ?_)
           ·exact ⟨Lib.hid (HMc.out _ (h5).below),Lib.hid (HF.out _ (h5).below),HM3.out _ (h5).below⟩
           clear hK K
           try simp only [Act.put,List.setIfInBounds_toArray,List.set_cons_succ,List.set_cons_zero]
           refine wpAnyH_take (i := 14) (oi := ⟨some 59,.move (.tmp 73),62,"ref.go:147",#[⟨13,.data⟩],none⟩) (v := ?_) rfl (by kernel_rfl) (by kernel_rfl) (by kernel_rfl) (fun _ _ _ h => h) (Or.inl ⟨by rfl, ?_⟩) (by assumption) ?_
           rotate_left 1
           ·intro w hSw
            try dsimp only at hSw
            go_simp
            all_goals with_reducible rfl
           try simp only [Act.put,List.setIfInBounds_toArray,List.set_cons_succ,List.set_cons_zero]
           refine wpAnyH_take (i := 15) (oi := ⟨some 74,.extract (.tmp 59) 0,38,"ref.go:147",#[⟨14,.data⟩],none⟩) (v := ?_) rfl (by kernel_rfl) (by kernel_rfl) (by kernel_rfl) (fun _ _ _ h => h) (Or.inl ⟨by rfl, ?_⟩) (by assumption) ?_
           rotate_left 1
           ·intro w hSw
            try dsimp only at hSw
            go_simp
            all_goals with_reducible rfl
           try simp only [Act.put,List.setIfInBounds_toArray,List.set_cons_succ,List.set_cons_zero]
           refine wpAnyH_take (i := 16) (oi := ⟨some 75,.extract (.tmp 59) 1,4,"ref.go:147",#[⟨14,.data⟩, { on := 18,ground := Ground.gcOnly Departure.lateStores }],none⟩) (v := ?_) rfl (by kernel_rfl) (by kernel_rfl) (by kernel_rfl) (fun _ _ _ h => h) (Or.inl ⟨by rfl, ?_⟩) (by assumption) ?_
           rotate_left 1
           ·intro w hSw
            try dsimp only at hSw
            go_simp
            all_goals with_reducible rfl
           try simp only [Act.put,List.setIfInBounds_toArray,List.set_cons_succ,List.set_cons_zero]
           refine wpAnyH_ready (rs := [17]) (by kernel_rfl) (by simp) ?_
           refine AllReadyH.cons (o := ⟨some 9,.alloc 38,0,"ref.go:147",#[],none⟩) rfl (fun K hK => ?_) AllReadyH.nil
           go_simp
           generalize hgx : w5.heap.size = gx
           have h4 := alloc_at (n := gx) h5 (.cells #[.int .i64 0,.string ⟨#[]⟩,.int .i64 0,.int .i64 0,.int .i64 0,.bool false,.bool false,.slice none 0 0,.bool false,.string ⟨#[]⟩,.slice none 0 0,.slice none 0 0,.slice none 0 0,.slice none 0 0,.slice none 0 0] 38) hgx.symm
           refine hK.out _ _ ?_ (fun hHeld => ?_)
           ·exact ⟨Lib.hid (HMc.out _ (h4).below),Lib.hid (HF.out _ (h4).below),HM3.out _ (h4).below⟩
           clear hK K
           try simp only [Act.put,List.setIfInBounds_toArray,List.set_cons_succ,List.set_cons_zero]
           refine wpAnyH_ready (rs := [18]) (by kernel_rfl) (by simp) ?_
           refine AllReadyH.cons (o := ⟨none,.store 38 (.tmp 9) (.tmp 74),0,"ref.go:147",#[⟨17,.data⟩,⟨15,.data⟩,⟨13,.chain⟩,⟨0,.phase⟩,⟨1,.phase⟩,⟨2,.phase⟩,⟨3,.phase⟩,⟨4,.phase⟩,⟨5,.phase⟩,⟨6,.phase⟩,⟨7,.phase⟩,⟨8,.phase⟩,⟨9,.phase⟩,⟨10,.phase⟩,⟨11,.phase⟩,⟨12,.phase⟩,⟨13,.phase⟩,⟨14,.phase⟩,⟨15,.phase⟩, { on := 16,ground := Ground.textOnly Departure.lateStores },⟨17,.phase⟩],none⟩) rfl (fun K hK => ?_) AllReadyH.nil
           refine step_store_blk (by rfl) (ty := 38) (by rfl) qs (by rfl) (by rfl) rfl (by rw [hq1]; kernel_rfl) hq2 h4 (by rw [hq1]; rfl) ?_
           intro w6 h6
           refine hK.out _ _ ?_ (fun hHeld => ?_)
           ·exact ⟨Lib.hid (HMc.out _ (h6).below),Lib.hid (HF.out _ (h6).below),HM3.out _ (h6).below⟩
           clear hK K
           try simp only [Act.put,List.setIfInBounds_toArray,List.set_cons_succ,List.set_cons_zero]
           refine wpAnyH_take (i := 19) (oi := ⟨some 10,.assign (.tmp 75),4,"ref.go:147",#[⟨16,.data⟩,⟨18,.chain⟩,⟨0,.phase⟩,⟨1,.phase⟩,⟨2,.phase⟩,⟨3,.phase⟩,⟨4,.phase⟩,⟨5,.phase⟩,⟨6,.phase⟩,⟨7,.phase⟩,⟨8,.phase⟩,⟨9,.phase⟩,⟨10,.phase⟩,⟨11,.phase⟩,⟨12,.phase⟩,⟨13,.phase⟩,⟨14,.phase⟩,⟨15,.phase⟩,⟨16,.phase⟩,⟨17,.phase⟩,⟨18,.phase⟩],none⟩) (v := ?_) rfl (by kernel_rfl) (by kernel_rfl) (by kernel_rfl) (fun _ _ _ h => h) (Or.inl ⟨by rfl, ?_⟩) (by assumption) ?_
           rotate_left 1
           ·intro w hSw
            try dsimp only at hSw
            go_simp
            all_goals with_reducible rfl
           try simp only [Act.put,List.setIfInBounds_toArray,List.set_cons_succ,List.set_cons_zero]
           refine wpAnyH_done (by kernel_rfl) ?_ _
           go_wp2_with fail
           go_meet
           exact ⟨_,_,rfl,rfl,Lib.hid ⟨hq1,hq2⟩,Lib.hid h6⟩
          ·go_simp
           generalize hgx : wr.heap.size = gx
           have h4 := (alloc_at (n := gx) HR.out (.cells #[.int .i64 0,.string ⟨#[]⟩,.int .i64 0,.int .i64 0,.int .i64 0,.bool false,.bool false,.slice none 0 0,.bool false,.string ⟨#[]⟩,.slice none 0 0,.slice none 0 0,.slice none 0 0,.slice none 0 0,.slice none 0 0] 38) hgx.symm).drew
           refine hK.out _ _ ?_ (fun hHeld => ?_)
           ·exact ⟨Lib.hid (HMc.out _ (h4).below),Lib.hid (HF.out _ (h4).below),HM3.out _ (h4).below⟩
           clear hK K
           try simp only [Act.put,List.setIfInBounds_toArray,List.set_cons_succ,List.set_cons_zero]
           refine wpAnyH_ready (rs := [13]) (by kernel_rfl) (by simp) ?_
           refine AllReadyH.cons (o := ⟨some 73,.call { callee := .value (.func 21),args := #[.tmp 63,.tmp 72],argTypes := #[44,38] },62,"ref.go:147",#[⟨3,.data⟩,⟨12,.data⟩],none⟩) rfl (fun K hK => ?_) AllReadyH.nil
           go_simp
           refine (named_at r _ HKm.out.1 HKm.out.2.1.1 (fun x hx => (HKm.out.2.1.2.1.2 x hx).2.2) 40 _ _ d.t ts h4 HK.out.1 HO.out.1.2 HO.out.2.1).mono ?_
           rintro e w5 ⟨qs,hq1,hq2,rfl,h5⟩
           refine hK.out _ _ ?_ (fun hHeld => ?_)
           ·exact ⟨Lib.hid (HMc.out _ (h5).below),Lib.hid (HF.out _ (h5).below),HM3.out _ (h5).below⟩
           clear hK K
           try simp only [Act.put,List.setIfInBounds_toArray,List.set_cons_succ,List.set_cons_zero]
           refine wpAnyH_take (i := 14) (oi := ⟨some 59,.move (.tmp 73),62,"ref.go:147",#[⟨13,.data⟩],none⟩) (v := ?_) rfl (by kernel_rfl) (by kernel_rfl) (by kernel_rfl) (fun _ _ _ h => h) (Or.inl ⟨by rfl, ?_⟩) (by assumption) ?_
           rotate_left 1
           ·intro w hSw
            try dsimp only at hSw
            go_simp
            all_goals with_reducible rfl
           try simp only [Act.put,List.setIfInBounds_toArray,List.set_cons_succ,List.set_cons_zero]
           refine wpAnyH_take (i := 15) (oi := ⟨some 74,.extract (.tmp 59) 0,38,"ref.go:147",#[⟨14,.data⟩],none⟩) (v := ?_) rfl (by kernel_rfl) (by kernel_rfl) (by kernel_rfl) (fun _ _ _ h => h) (Or.inl ⟨by rfl, ?_⟩) (by assumption) ?_
           rotate_left 1
           ·intro w hSw
            try dsimp only at hSw
            go_simp
            all_goals with_reducible rfl
           try simp only [Act.put,List.setIfInBounds_toArray,List.set_cons_succ,List.set_cons_zero]
           refine wpAnyH_take (i := 16) (oi := ⟨some 75,.extract (.tmp 59) 1,4,"ref.go:147",#[⟨14,.data⟩, { on := 18,ground := Ground.gcOnly Departure.lateStores }],none⟩) (v := ?_) rfl (by kernel_rfl) (by kernel_rfl) (by kernel_rfl) (fun _ _ _ h => h) (Or.inl ⟨by rfl, ?_⟩) (by assumption) ?_
           rotate_left 1
           ·intro w hSw
            try dsimp only at hSw
            go_simp
            all_goals with_reducible rfl
           try simp only [Act.put,List.setIfInBounds_toArray,List.set_cons_succ,List.set_cons_zero]
           refine wpAnyH_ready (rs := [18]) (by kernel_rfl) (by simp) ?_
           refine AllReadyH.cons (o := ⟨none,.store 38 (.tmp 9) (.tmp 74),0,"ref.go:147",#[⟨17,.data⟩,⟨15,.data⟩,⟨13,.chain⟩,⟨0,.phase⟩,⟨1,.phase⟩,⟨2,.phase⟩,⟨3,.phase⟩,⟨4,.phase⟩,⟨5,.phase⟩,⟨6,.phase⟩,⟨7,.phase⟩,⟨8,.phase⟩,⟨9,.phase⟩,⟨10,.phase⟩,⟨11,.phase⟩,⟨12,.phase⟩,⟨13,.phase⟩,⟨14,.phase⟩,⟨15,.phase⟩, { on := 16,ground := Ground.textOnly Departure.lateStores },⟨17,.phase⟩],none⟩) rfl (fun K hK => ?_) AllReadyH.nil
           refine step_store_blk (by rfl) (ty := 38) (by rfl) qs (by rfl) (by rfl) rfl (by rw [hq1]; kernel_rfl) hq2 h5.two (by rw [hq1]; rfl) ?_
           intro w6 h6
           refine hK.out _ _ ?_ (fun hHeld => ?_)
           ·exact ⟨Lib.hid (HMc.out _ (h6).below),Lib.hid (HF.out _ (h6).below),HM3.out _ (h6).below⟩
           clear hK K
           try simp only [Act.put,List.setIfInBounds_toArray,List.set_cons_succ,List.set_cons_zero]
           refine wpAnyH_take (i := 19) (oi := ⟨some 10,.assign (.tmp 75),4,"ref.go:147",#[⟨16,.data⟩,⟨18,.chain⟩,⟨0,.phase⟩,⟨1,.phase⟩,⟨2,.phase⟩,⟨3,.phase⟩,⟨4,.phase⟩,⟨5,.phase⟩,⟨6,.phase⟩,⟨7,.phase⟩,⟨8,.phase⟩,⟨9,.phase⟩,⟨10,.phase⟩,⟨11,.phase⟩,⟨12,.phase⟩,⟨13,.phase⟩,⟨14,.phase⟩,⟨15,.phase⟩,⟨16,.phase⟩,⟨17,.phase⟩,⟨18,.phase⟩],none⟩) (v := ?_) rfl (by kernel_rfl) (by kernel_rfl) (by kernel_rfl) (fun _ _ _ h => h) (Or.inl ⟨by rfl, ?_⟩) (by assumption) ?_
           rotate_left 1
           ·intro w hSw
            try dsimp only at hSw
            go_simp
            all_goals with_reducible rfl
           try simp only [Act.put,List.setIfInBounds_toArray,List.set_cons_succ,List.set_cons_zero]
           refine wpAnyH_done (by kernel_rfl) ?_ _
           go_wp2_with fail
           go_meet
           exact ⟨_,_,rfl,rfl,Lib.hid ⟨hq1,hq2⟩,Lib.hid h6⟩
         case rest =>
          obtain ⟨gx,qs,rfl,rfl,HQ,H8⟩ := hcut
          clear HR m3
          cases hq : typP (rlook r) 40 d.t with
          | none =>
           have HZ : Hid (resP l = (7,[])) := Lib.hid (by
            cases hd : dupB l with
            | true => exact res_dup2 HM.out.2 hd
            | false =>
             refine res_stuck HM.out.2 hd HKm.out.2.2 ?_
             rw [HHd.out.2]
             exact mapO_none HO.out.2.2 (by unfold enOf; rw [hq]; rfl))
           clear hq
           go_wp2
           refine bodyPost_ret (v := .tuple #[.slice none 0 0,.int .i64 7]) (by simp [results,Tryz.results7,go_sem]) rfl ?_
           exact ⟨none,0,0,[],by rw [HZ.out],by rw [HZ.out]; rfl,(Vw.base (H8.out.drop.drop.drop.drop) (fun wv _ => by rw [HZ.out]; exact Reps.none _ _)).nil _ _⟩
          | some t1 =>
           have HQT := Lib.hid hq
           clear hq
           obtain ⟨q0,q1,q2,q3,q4,q5,q6,q7,q8,q9,q10,q11,q12,q13,q14,rfl⟩ := len15 HQ.out.1
           have HLl : Hid (y.length + ys.length + 1 ≤ 100000) := Lib.hid (by
            obtain ⟨z, -, -,hb, -⟩ := HY.out
            have := HLn.out
            have h2 := mapO_len _ _ _ HYs.out
            rw [List.length_take] at h2
            have := HH.out.2.1
            omega)
           go_wp2
           have HM013 : Hid (∀ W,Below w0.heap.size w0 W → W.cell? (ad.add (x.toNat * 4)) = some (.string r.n) ∧ W.cell? ⟨(ad.add (x.toNat * 4)).block,(ad.add (x.toNat * 4)).off + 1,none⟩ = some (.bool r.au) ∧ W.cell? ⟨(ad.add (x.toNat * 4)).block,(ad.add (x.toNat * 4)).off + 3,none⟩ = some (.slice (some ad3) r.df.length c3)) := Lib.hid fun W hW => ⟨pw_cell_below hW (HCl.out 0 _ rfl),by rw [← add_field ad _ 1 (by decide)]; exact pw_cell_below hW (HCl.out 1 _ rfl),HM3.out W hW⟩
           refine wp_region_held_drew (S := fun W => (W.cell? (ad.add (x.toNat * 4)) = some (.string r.n) ∧ W.cell? ⟨(ad.add (x.toNat * 4)).block,(ad.add (x.toNat * 4)).off + 1,none⟩ = some (.bool r.au) ∧ W.cell? ⟨(ad.add (x.toNat * 4)).block,(ad.add (x.toNat * 4)).off + 3,none⟩ = some (.slice (some ad3) r.df.length c3)) ∧ W.cell? (ad3.add (k.toNat * 16)) = some (.string d.n) ∧ Hid (∀ (j : Nat) (v : Value),([q0,q1,q2,q3,q4,q5,q6,q7,q8,q9,q10,q11,q12,q13,q14] : List Value)[j]? = some v → W.cell? ((⟨gx,0,none⟩ : Addr).add j) = some v)) (by kernel_rfl) ?_ (fun hHeld => ?_)
           ·exact ⟨HM013.out _ (H8.out.drew).below,HDn.out _ (H8.out.drew).below,Lib.hid (blk_cellsR (H8.out.drew))⟩
           refine wpAnyH_take (i := 0) (oi := ⟨some 78,.move (.tmp 6),25,"ref.go:151",#[],none⟩) (v := ?_) rfl (by kernel_rfl) (by kernel_rfl) (by kernel_rfl) (fun _ _ _ h => h) (Or.inl ⟨by rfl, ?_⟩) (by assumption) ?_
           rotate_left 1
           ·intro w hSw
            try dsimp only at hSw
            go_simp
            all_goals with_reducible rfl
           try simp only [Act.put,List.setIfInBounds_toArray,List.set_cons_succ,List.set_cons_zero]
           refine wpAnyH_take (i := 1) (oi := ⟨some 79,.move (.tmp 0),22,"ref.go:151",#[],none⟩) (v := ?_) rfl (by kernel_rfl) (by kernel_rfl) (by kernel_rfl) (fun _ _ _ h => h) (Or.inl ⟨by rfl, ?_⟩) (by assumption) ?_
           rotate_left 1
           ·intro w hSw
            try dsimp only at hSw
            go_simp
            all_goals with_reducible rfl
           try simp only [Act.put,List.setIfInBounds_toArray,List.set_cons_succ,List.set_cons_zero]
           refine wpAnyH_take (i := 2) (oi := ⟨some 80,.move (.tmp 7),3,"ref.go:151",#[],none⟩) (v := ?_) rfl (by kernel_rfl) (by kernel_rfl) (by kernel_rfl) (fun _ _ _ h => h) (Or.inl ⟨by rfl, ?_⟩) (by assumption) ?_
           rotate_left 1
           ·intro w hSw
            try dsimp only at hSw
            go_simp
            all_goals with_reducible rfl
           try simp only [Act.put,List.setIfInBounds_toArray,List.set_cons_succ,List.set_cons_zero]
           refine wpAnyH_take (i := 3) (oi := ⟨some 81,.indexAddr 22 (.tmp 79) (.tmp 80),0,"ref.go:151",#[⟨1,.data⟩,⟨2,.data⟩],none⟩) (v := ?_) rfl (by kernel_rfl) (by kernel_rfl) (by kernel_rfl) (fun _ _ _ h => h) (Or.inl ⟨by rfl, ?_⟩) (by assumption) ?_
           rotate_left 1
           ·intro w hSw
            try dsimp only at hSw
            go_simp
            all_goals with_reducible rfl
           try simp only [Act.put,List.setIfInBounds_toArray,List.set_cons_succ,List.set_cons_zero]
           refine wpAnyH_take (i := 4) (oi := ⟨some 82,.fieldAddr 44 (.tmp 81) 0,0,"ref.go:151",#[⟨3,.data⟩],none⟩) (v := ?_) rfl (by kernel_rfl) (by kernel_rfl) (by kernel_rfl) (fun _ _ _ h => h) (Or.inl ⟨by rfl, ?_⟩) (by assumption) ?_
           rotate_left 1
           ·intro w hSw
            try dsimp only at hSw
            go_simp
            all_goals with_reducible rfl
           try simp only [Act.put,List.setIfInBounds_toArray,List.set_cons_succ,List.set_cons_zero]
           refine wpAnyH_take (i := 5) (oi := ⟨some 83,.load 9 (.tmp 82),9,"ref.go:151",#[⟨4,.data⟩],none⟩) (v := ?_) rfl (by kernel_rfl) (by kernel_rfl) (by kernel_rfl) (fun _ _ _ h => h) (Or.inl ⟨by rfl, ?_⟩) (by assumption) ?_
           rotate_left 1
           ·intro w hSw
            try dsimp only at hSw
            go_simp
            all_goals with_reducible rfl
           try simp only [Act.put,List.setIfInBounds_toArray,List.set_cons_succ,List.set_cons_zero]
           refine wpAnyH_take (i := 6) (oi := ⟨some 84,.move (.tmp 0),22,"ref.go:151",#[],none⟩) (v := ?_) rfl (by kernel_rfl) (by kernel_rfl) (by kernel_rfl) (fun _ _ _ h => h) (Or.inl ⟨by rfl, ?_⟩) (by assumption) ?_
           rotate_left 1
           ·intro w hSw
            try dsimp only at hSw
            go_simp
            all_goals with_reducible rfl
           try simp only [Act.put,List.setIfInBounds_toArray,List.set_cons_succ,List.set_cons_zero]
           refine wpAnyH_take (i := 7) (oi := ⟨some 85,.move (.tmp 7),3,"ref.go:151",#[],none⟩) (v := ?_) rfl (by kernel_rfl) (by kernel_rfl) (by kernel_rfl) (fun _ _ _ h => h) (Or.inl ⟨by rfl, ?_⟩) (by assumption) ?_
           rotate_left 1
           ·intro w hSw
            try dsimp only at hSw
            go_simp
            all_goals with_reducible rfl
           try simp only [Act.put,List.setIfInBounds_toArray,List.set_cons_succ,List.set_cons_zero]
           refine wpAnyH_take (i := 8) (oi := ⟨some 86,.indexAddr 22 (.tmp 84) (.tmp 85),0,"ref.go:151",#[⟨6,.data⟩,⟨7,.data⟩],none⟩) (v := ?_) rfl (by kernel_rfl) (by kernel_rfl) (by kernel_rfl) (fun _ _ _ h => h) (Or.inl ⟨by rfl, ?_⟩) (by assumption) ?_
           rotate_left 1
           ·intro w hSw
            try dsimp only at hSw
            go_simp
            all_goals with_reducible rfl
           try simp only [Act.put,List.setIfInBounds_toArray,List.set_cons_succ,List.set_cons_zero]
           refine wpAnyH_take (i := 9) (oi := ⟨some 87,.fieldAddr 44 (.tmp 86) 3,0,"ref.go:151",#[⟨8,.data⟩],none⟩) (v := ?_) rfl (by kernel_rfl) (by kernel_rfl) (by kernel_rfl) (fun _ _ _ h => h) (Or.inl ⟨by rfl, ?_⟩) (by assumption) ?_
           rotate_left 1
           ·intro w hSw
            try dsimp only at hSw
            go_simp
            all_goals with_reducible rfl
           try simp only [Act.put,List.setIfInBounds_toArray,List.set_cons_succ,List.set_cons_zero]
           refine wpAnyH_take (i := 10) (oi := ⟨some 88,.load 41 (.tmp 87),41,"ref.go:151",#[⟨9,.data⟩],none⟩) (v := ?_) rfl (by kernel_rfl) (by kernel_rfl) (by kernel_rfl) (fun _ _ _ h => h) (Or.inl ⟨by rfl, ?_⟩) (by assumption) ?_
           rotate_left 1
           ·intro w hSw
            try dsimp only at hSw
            go_simp
            all_goals with_reducible rfl
           try simp only [Act.put,List.setIfInBounds_toArray,List.set_cons_succ,List.set_cons_zero]
           refine wpAnyH_take (i := 11) (oi := ⟨some 89,.move (.tmp 8),3,"ref.go:151",#[],none⟩) (v := ?_) rfl (by kernel_rfl) (by kernel_rfl) (by kernel_rfl) (fun _ _ _ h => h) (Or.inl ⟨by rfl, ?_⟩) (by assumption) ?_
           rotate_left 1
           ·intro w hSw
            try dsimp only at hSw
            go_simp
            all_goals with_reducible rfl
           try simp only [Act.put,List.setIfInBounds_toArray,List.set_cons_succ,List.set_cons_zero]
           refine wpAnyH_take (i := 12) (oi := ⟨some 90,.indexAddr 41 (.tmp 88) (.tmp 89),0,"ref.go:151",#[⟨10,.data⟩,⟨11,.data⟩],none⟩) (v := ?_) rfl (by kernel_rfl) (by kernel_rfl) (by kernel_rfl) (fun _ _ _ h => h) (Or.inl ⟨by rfl, ?_⟩) (by assumption) ?_
           rotate_left 1
           ·intro w hSw
            try dsimp only at hSw
            go_simp
            all_goals with_reducible rfl
           try simp only [Act.put,List.setIfInBounds_toArray,List.set_cons_succ,List.set_cons_zero]
           refine wpAnyH_take (i := 13) (oi := ⟨some 91,.fieldAddr 40 (.tmp 90) 0,0,"ref.go:151",#[⟨12,.data⟩],none⟩) (v := ?_) rfl (by kernel_rfl) (by kernel_rfl) (by kernel_rfl) (fun _ _ _ h => h) (Or.inl ⟨by rfl, ?_⟩) (by assumption) ?_
           rotate_left 1
           ·intro w hSw
            try dsimp only at hSw
            go_simp
            all_goals with_reducible rfl
           try simp only [Act.put,List.setIfInBounds_toArray,List.set_cons_succ,List.set_cons_zero]
           refine wpAnyH_take (i := 14) (oi := ⟨some 92,.load 9 (.tmp 91),9,"ref.go:151",#[⟨13,.data⟩],none⟩) (v := ?_) rfl (by kernel_rfl) (by kernel_rfl) (by kernel_rfl) (fun _ _ _ h => h) (Or.inl ⟨by rfl, ?_⟩) (by assumption) ?_
           rotate_left 1
           ·intro w hSw
            try dsimp only at hSw
            go_simp
            all_goals with_reducible rfl
           try simp only [Act.put,List.setIfInBounds_toArray,List.set_cons_succ,List.set_cons_zero]
           refine wpAnyH_take (i := 15) (oi := ⟨some 93,.move (.tmp 0),22,"ref.go:151",#[],none⟩) (v := ?_) rfl (by kernel_rfl) (by kernel_rfl) (by kernel_rfl) (fun _ _ _ h => h) (Or.inl ⟨by rfl, ?_⟩) (by assumption) ?_
           rotate_left 1
           ·intro w hSw
            try dsimp only at hSw
            go_simp
            all_goals with_reducible rfl
           try simp only [Act.put,List.setIfInBounds_toArray,List.set_cons_succ,List.set_cons_zero]
           refine wpAnyH_take (i := 16) (oi := ⟨some 94,.move (.tmp 7),3,"ref.go:151",#[],none⟩) (v := ?_) rfl (by kernel_rfl) (by kernel_rfl) (by kernel_rfl) (fun _ _ _ h => h) (Or.inl ⟨by rfl, ?_⟩) (by assumption) ?_
           rotate_left 1
           ·intro w hSw
            try dsimp only at hSw
            go_simp
            all_goals with_reducible rfl
           try simp only [Act.put,List.setIfInBounds_toArray,List.set_cons_succ,List.set_cons_zero]
           refine wpAnyH_take (i := 17) (oi := ⟨some 95,.indexAddr 22 (.tmp 93) (.tmp 94),0,"ref.go:151",#[⟨15,.data⟩,⟨16,.data⟩],none⟩) (v := ?_) rfl (by kernel_rfl) (by kernel_rfl) (by kernel_rfl) (fun _ _ _ h => h) (Or.inl ⟨by rfl, ?_⟩) (by assumption) ?_
           rotate_left 1
           ·intro w hSw
            try dsimp only at hSw
            go_simp
            all_goals with_reducible rfl
           try simp only [Act.put,List.setIfInBounds_toArray,List.set_cons_succ,List.set_cons_zero]
           refine wpAnyH_take (i := 18) (oi := ⟨some 96,.fieldAddr 44 (.tmp 95) 1,0,"ref.go:151",#[⟨17,.data⟩],none⟩) (v := ?_) rfl (by kernel_rfl) (by kernel_rfl) (by kernel_rfl) (fun _ _ _ h => h) (Or.inl ⟨by rfl, ?_⟩) (by assumption) ?_
           rotate_left 1
           ·intro w hSw
            try dsimp only at hSw
            go_simp
            all_goals with_reducible rfl
           try simp only [Act.put,List.setIfInBounds_toArray,List.set_cons_succ,List.set_cons_zero]
           refine wpAnyH_take (i := 19) (oi := ⟨some 97,.load 4 (.tmp 96),4,"ref.go:151",#[⟨18,.data⟩],none⟩) (v := ?_) rfl (by kernel_rfl) (by kernel_rfl) (by kernel_rfl) (fun _ _ _ h => h) (Or.inl ⟨by rfl, ?_⟩) (by assumption) ?_
           rotate_left 1
           ·intro w hSw
            try dsimp only at hSw
            go_simp
            all_goals with_reducible rfl
           try simp only [Act.put,List.setIfInBounds_toArray,List.set_cons_succ,List.set_cons_zero]
           refine wpAnyH_take (i := 20) (oi := ⟨some 98,.load 38 (.tmp 9),38,"ref.go:151",#[],none⟩) (v := .agg ([q0,q1,q2,q3,q4,q5,q6,q7,q8,q9,q10,q11,q12,q13,q14] : List Value).toArray) rfl (by kernel_rfl) (by kernel_rfl) (by kernel_rfl) (fun _ _ _ h => h) (yields_loadR (by rfl) 38 _ rfl (⟨gx,0,none⟩) rfl [q0,q1,q2,q3,q4,q5,q6,q7,q8,q9,q10,q11,q12,q13,q14] (fun w hS => hS.2.2.out) _ Tryz.underlying38 rfl (by rw [(rfl : ([q0,q1,q2,q3,q4,q5,q6,q7,q8,q9,q10,q11,q12,q13,q14] : List Value).length = 15)]; kernel_rfl)) (by assumption) ?_
           try simp only [Act.put,List.setIfInBounds_toArray,List.set_cons_succ,List.set_cons_zero]
           refine wpAnyH_take (i := 21) (oi := ⟨some 99,.build 46 #[(0,.tmp 83),(1,.tmp 92),(2,.tmp 97),(3,.tmp 98)],46,"ref.go:151",#[⟨5,.data⟩,⟨14,.data⟩,⟨19,.data⟩,⟨20,.data⟩],none⟩) (v := ?_) rfl (by kernel_rfl) (by kernel_rfl) (by kernel_rfl) (fun _ _ _ h => h) (Or.inl ⟨by rfl, ?_⟩) (by assumption) ?_
           rotate_left 1
           ·intro w hSw
            try dsimp only at hSw
            go_simp
            all_goals with_reducible rfl
           try simp only [Act.put,List.setIfInBounds_toArray,List.set_cons_succ,List.set_cons_zero]
           refine wpAnyH_ready (rs := [22]) (by kernel_rfl) (by simp) ?_
           refine AllReadyH.cons (o := ⟨some 100,.buildSlice 25 1 #[(0,.tmp 99)],25,"ref.go:151",#[⟨21,.data⟩],none⟩) rfl (fun K hK => ?_) AllReadyH.nil
           go_simp
           have h9 := (alloc_at (n := wc.heap.size) H8.out (.cells #[.string r.n,.string d.n,.bool r.au,q0,q1,q2,q3,q4,q5,q6,q7,q8,q9,q10,q11,q12,q13,q14] 46) rfl).drew
           refine hK.out _ _ ?_ (fun hHeld => ?_)
           ·exact ⟨HM013.out _ (h9).below,HDn.out _ (h9).below,Lib.hid (blk_cellsR (h9.drop))⟩
           clear hK K
           try simp only [Act.put,List.setIfInBounds_toArray,List.set_cons_succ,List.set_cons_zero]
           refine wpAnyH_ready (rs := [23]) (by kernel_rfl) (by simp) ?_
           refine AllReadyH.cons (o := ⟨some 101,.call { callee := .builtin .append,args := #[.tmp 78,.tmp 100],argTypes := #[25,25] },25,"ref.go:151",#[⟨0,.data⟩,⟨22,.data⟩],none⟩) rfl (fun K hK => ?_) AllReadyH.nil
           refine step_appR (by rfl) _ _ Tryz.underlying25 info_ens rfl (by decide) (by rfl) _ (y.length + ys.length) xj (by rfl) (four h9) (by rfl) rfl (fun j u hu => ⟨_,rfl,by rw [Sep.add_plain]; exact h9.cell j (by simpa using hu)⟩) (by have := HQ.out.2; simp only [List.mem_cons,List.not_mem_nil,or_false,forall_eq_or_imp,forall_eq] at this ⊢; exact ⟨rfl,rfl,rfl,this⟩) (by have := HLl.out; simp only [maxLen]; omega) (by have := HLl.out; omega) ?_
           intro va9 w9 h10
           refine hK.out _ _ ?_ (fun hHeld => ?_)
           ·exact ⟨HM013.out _ (h10).below,HDn.out _ (h10).below,Lib.hid (blk_cellsR (h10.drop.drop))⟩
           clear hK K
           try simp only [Act.put,List.setIfInBounds_toArray,List.set_cons_succ,List.set_cons_zero]
           refine wpAnyH_take (i := 24) (oi := ⟨some 6,.assign (.tmp 101),25,"ref.go:151",#[⟨23,.data⟩,⟨23,.chain⟩,⟨0,.phase⟩,⟨1,.phase⟩,⟨2,.phase⟩,⟨3,.phase⟩,⟨4,.phase⟩,⟨5,.phase⟩,⟨6,.phase⟩,⟨7,.phase⟩,⟨8,.phase⟩,⟨9,.phase⟩,⟨10,.phase⟩,⟨11,.phase⟩,⟨12,.phase⟩,⟨13,.phase⟩,⟨14,.phase⟩,⟨15,.phase⟩,⟨16,.phase⟩,⟨17,.phase⟩,⟨18,.phase⟩,⟨19,.phase⟩,⟨20,.phase⟩,⟨21,.phase⟩,⟨22,.phase⟩,⟨23,.phase⟩],none⟩) (v := ?_) rfl (by kernel_rfl) (by kernel_rfl) (by kernel_rfl) (fun _ _ _ h => h) (Or.inl ⟨by rfl, ?_⟩) (by assumption) ?_
           rotate_left 1
           ·intro w hSw
            try dsimp only at hSw
            go_simp
            all_goals with_reducible rfl
           try simp only [Act.put,List.setIfInBounds_toArray,List.set_cons_succ,List.set_cons_zero]
           refine wpAnyH_done (by kernel_rfl) ?_ _
           have H11 : Hid (S w0 w9 (RowV 46 18 va9 (y.length + (ys ++ [(⟨r.n,d.n,r.au,t1⟩ : En)]).length) (xj ++ ([.string r.n,.string d.n,.bool r.au,q0,q1,q2,q3,q4,q5,q6,q7,q8,q9,q10,q11,q12,q13,q14] : List Value)) • (Vw w0 w0.heap.size (fun W => Reps (kEn.K W) 18 (y ++ (ys ++ [⟨r.n,d.n,r.au,t1⟩])) (xj ++ ([.string r.n,.string d.n,.bool r.au,q0,q1,q2,q3,q4,q5,q6,q7,q8,q9,q10,q11,q12,q13,q14] : List Value))) • R))) := Lib.hid (by
            rw [List.length_append,List.length_singleton, ← Nat.add_assoc]
            refine (Vw.map (Vw.join h10.two.drop.two.drop.three.three) fun wv hb hp => ?_).two
            rw [← List.append_assoc]
            exact Reps.snoc hp.2 (kEn_mk wv ⟨r.n,d.n,r.au,t1⟩ (hp.1 _ HQT.out)) rfl)
           have HYs2 : Hid (mapO (enOf (rlook r) r) (r.df.take (k + 1).toNat) = some (ys ++ [⟨r.n,d.n,r.au,t1⟩])) := Lib.hid (by
            rw [show (k + 1).toNat = k.toNat + 1 by omega]
            exact mapO_take HGd.out HYs.out (by unfold enOf; rw [HQT.out]; rfl))
           clear h9 h10 hHeld H8
           go_wp2
           exact ⟨⟨_,k + 1,_,_,rfl,by omega,by omega,by go_num,H11,HYs2⟩,by simp only [intOf]; omega⟩
        ·have hlk' : (k < (r.df.length : Int)) = False := eq_false hlk
         have HYe : Hid (modP (ownHas l) r = some ys) := Lib.hid (by
          rw [HHd.out.2]
          have h := HYs.out
          rwa [List.take_of_length_le (by omega)] at h)
         have H12 : Hid (S w0 wr (RowV 46 18 va (y ++ ys).length xj • (Vw w0 w0.heap.size (fun W => Reps (kEn.K W) 18 (y ++ ys) xj) • R))) := Lib.hid (by rw [List.length_append]; exact HR.out)
         have HY2 : Hid (∃ z,mapO (modP (ownHas l)) (l.take (x + 1).toNat) = some z ∧ y ++ ys = z.flatten ∧ (y ++ ys).length ≤ 256 * (x + 1).toNat ∧ ∀ m ∈ l.take (x + 1).toNat,onceB (dfNames m) = true) := Lib.hid (by
          obtain ⟨z,h1,h2,h3,h4⟩ := HY.out
          refine ⟨z ++ [ys], ?_,by rw [h2]; simp, ?_,fun m hm => ?_⟩
          ·rw [show (x + 1).toNat = x.toNat + 1 by omega]
           exact mapO_take HG.out h1 HYe.out
          ·have h5 := mapO_len _ _ _ HYs.out
           rw [List.length_take] at h5
           have := HH.out.2.1
           rw [List.length_append]
           omega
          ·rw [take_nextR hx0 HG.out] at hm
           rcases List.mem_append.1 hm with hm | hm
           ·exact h4 m hm
           ·rw [List.mem_singleton.1 hm]; exact HHd.out.1)
         go_wp2
         exact ⟨⟨_,x + 1,_,_,rfl,by omega,by omega,by go_num,H12,HY2⟩,by simp only [intOf]; omega⟩
     ·have hlt' : (x < (l.length : Int)) = False := eq_false hlt
      have HAll : Hid (allP l = some y ∧ dupB l = false) := Lib.hid (by
       obtain ⟨z,h1,h2,h3,h4⟩ := HY.out
       rw [List.take_of_length_le (by omega)] at h1 h4
       exact ⟨by unfold allP; rw [h1,h2]; rfl,dup_false.2 ⟨HO.out,h4⟩⟩)
      have HRs2 : Hid (resP l = if finB y = true then (0,y) else (9,[])) := Lib.hid (by rw [res_all HM.out.2 HAll.out.2,HAll.out.1])
      have HEs := Lib.hid (all_o HM.out.2 HA.out.2 HAll.out.1)
      have HNd := Lib.hid (all_nodup HM.out.2 HAll.out.2 HAll.out.1)
      have hle : y.length ≤ 1000000 := by
       obtain ⟨z, -, -,hb, -⟩ := HY.out
       have := HLn.out
       omega
      obtain ⟨AO,cO,rfl,hlO,hmO,hCO⟩ := Vw.get (Vw.row (d := kEn) (by decide) rfl HR.out)
      have HF := Lib.hid (rfinite_at AO cO y HR.out hCO (fun z hz => ⟨(HEs.out z hz).1,(HEs.out z hz).2.1⟩) (fun z hz => dp_dpR _ _ (HEs.out z hz).2.2) hle HNd.out)
      clear hCO hle hlO hmO
      cases hf : finB y with
      | false =>
       have HZ : Hid (resP l = (9,[])) := Lib.hid (by rw [HRs2.out,hf,if_neg (by simp)])
       go_wp2_with fail
       refine HF.out.mono ?_
       rintro e w30 ⟨rfl,h30⟩
       have H30 := Lib.hid h30
       rw [hf]
       clear h30 HF hf HR
       go_wp2
       refine bodyPost_ret (v := .tuple #[.slice none 0 0,.int .i64 9]) (by simp [results,Tryz.results7,go_sem]) rfl ?_
       exact ⟨none,0,0,[],by rw [HZ.out],by rw [HZ.out]; rfl,(Vw.base (H30.out.drop.drop) (fun wv _ => by rw [HZ.out]; exact Reps.none _ _)).nil _ _⟩
      | true =>
       have HZ : Hid (resP l = (0,y)) := Lib.hid (by rw [HRs2.out,hf,if_pos rfl])
       go_wp2_with fail
       refine HF.out.mono ?_
       rintro e w30 ⟨rfl,h30⟩
       have H30 := Lib.hid h30
       rw [hf]
       clear h30 HF hf HR
       go_wp2
       refine bodyPost_ret (v := .tuple #[.slice AO y.length cO,.int .i64 0]) (by simp [results,Tryz.results7,go_sem]) rfl ?_
       exact ⟨AO,y.length,cO,xk,by rw [HZ.out],by rw [HZ.out],by rw [HZ.out]; exact H30.out⟩
end Go.Proofs.YtbjddomocggjmaaGreat.Sc
end
