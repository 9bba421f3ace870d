/- Finite of scope: walked. -/
import Derived.Test.YtbjddomocggjmaaGreatLAe
section
namespace Go.Proofs.YtbjddomocggjmaaGreat.Sc
open Go.RowKit Go.ChangeShapes Go.WideShapes Go.Proofs.YtbjddomocggjmaaGreat.Sep
open Go.Proofs.YtbjddomocggjmaaGreatW.PrintWords
variable {B : Nat} {w0 w : World} {R : HP}
open Go.Maps Go.ChangeMaps Go.MapKept
theorem mv_clear {b : Nat} {m : Kv} {t e ty : TypeId} (ht : Tryz.prog.underlying t = some (.map 9 e)) (h : St B w0 w (MapV b m • R)) :
  ∃ w',(Builtin.clear_ #[t] ty #[.map (some b)]).run Tryz.prog w = .ok (.tuple #[]) w' ∧ St B w0 w' (MapV b [] • R) := by
 obtain ⟨es,clock,hb, -⟩ := mv_owns h
 refine ⟨setBlock w b (.map #[] clock), ?_, ?_⟩
 ·simp [Builtin.clear_,run_underlying ht,MapKept.run_getObj_map hb,MapKept.run_setObj_map _ hb,Result.andThen,setBlock]
 ·refine h.step (by simp [setBlock]) rfl rfl rfl fun F hF ⟨hf,_⟩ => ⟨fun k hk hnk => heap_setBlock_other hb _ (fun e => hnk (e ▸ hf)),F,fun b hb => .inl hb,hf, ?_⟩
  exact ⟨#[],clock,heap_setBlock_same hb _,⟨by simp,stamped_empty clock,by simp⟩,Nat.le_refl _,rfl⟩
structure EnC (w0 : World) (x : En) (cs ts : List Value) : Prop where
 len : cs.length = 18
 m : cs[0]? = some (.string x.m)
 n : cs[1]? = some (.string x.n)
 typ : ∀ (j : Nat) (v : Value),ts[j]? = some v → cs[3 + j]? = some v
 tlen : ts.length = 15
 kt : kTy.K w0 x.t ts
 one : ∀ u ∈ cs,u.oneCell' = true
theorem en_cells {x : En} {cs : List Value} (h : kEn.K w0 x cs) : ∃ ts,EnC w0 x cs ts := by
 have hl : cs.length = 18 := kEn.K_len h
 obtain ⟨ts,e,hT⟩ := kEn_open h
 refine ⟨ts,hl,by rw [e]; rfl,by rw [e]; rfl,fun j v hv => ?_,kTy.K_len hT,hT,kEn.K_one h⟩
 rw [e,Nat.add_comm]
 exact hv
structure Rk (K0 : List (List UInt8)) (l : List En) (j : Nat) (s : Fst) : Prop where
 nodup : s.known.Nodup
 sub : ∀ k ∈ s.known,k ∈ K0 ∨ ∃ x ∈ l,enNm x = k
 grew : s.grows = true → K0.length < s.known.length
 len : K0.length ≤ s.known.length
 most : s.known.length ≤ K0.length + j
 left : s.left ≤ j
 first : s.first.length = j
theorem rk_step {K0 : List (List UInt8)} {l : List En} {j : Nat} {s : Fst} {x : En} (h : Rk K0 l j s) (hx : x ∈ l) : Rk K0 l (j + 1) (stepF s x) := by
 obtain ⟨h1,h2,h3,h4,h5,h6,h7⟩ := h
 unfold stepF
 dsimp only
 split
 ·exact ⟨h1,h2,h3,h4,by dsimp only; omega,by dsimp only; omega,by dsimp only; rw [List.length_append,List.length_singleton]; omega⟩
 ·next hc =>
  split
  ·next hd =>
   have hn : enNm x ∉ s.known := fun hm => by
    rw [Bool.and_eq_true,Bool.not_eq_true'] at hd
    rw [hd.1,List.contains_iff_mem.2 hm] at hc
    exact hc (by simp)
   refine ⟨?_,fun k hk => ?_,fun _ => ?_, ?_, ?_, ?_, ?_⟩
   ·rw [List.nodup_append]
    refine ⟨h1,by simp,fun a ha b hb => ?_⟩
    rw [List.mem_singleton.1 hb]
    rintro rfl
    exact hn ha
   ·rcases List.mem_append.1 hk with hk | hk
    ·exact h2 k hk
    ·exact .inr ⟨x,hx,(List.mem_singleton.1 hk).symm⟩
   all_goals dsimp only; try rw [List.length_append,List.length_singleton]
   all_goals omega
  ·exact ⟨h1,h2,h3,h4,by dsimp only; omega,by dsimp only; omega,by dsimp only; rw [List.length_append,List.length_singleton]; omega⟩
def stF (K : List (List UInt8)) (l : List En) : Fst := l.foldl stepF ⟨K,[],0,false⟩
theorem stF_next {K : List (List UInt8)} {l : List En} {x : Int} {r : En} (h0 : 0 ≤ x) (h : l[x.toNat]? = some r) : stF K (l.take (x + 1).toNat) = stepF (stF K (l.take x.toNat)) r := by
 have e : (x + 1).toNat = x.toNat + 1 := by omega
 rw [e,List.take_add_one,h]
 unfold stF
 rw [List.foldl_append]
 rfl
theorem step_again {s : Fst} {x : En} (ha : s.first.contains (enNm x) = true) : stepF s x = if finT s.known.contains 40 x.t = true then { s with first := s.first ++ [enNm x] } else { s with first := s.first ++ [enNm x],left := s.left + 1 } := by
 unfold stepF
 simp only [ha,Bool.true_and,Bool.not_true,Bool.and_false,Bool.or_false,Bool.false_and]
 rfl
theorem step_known {s : Fst} {x : En} (ha : s.first.contains (enNm x) = false) (hk : s.known.contains (enNm x) = true) : stepF s x = { s with first := s.first ++ [enNm x] } := by
 unfold stepF
 simp only [ha,hk,Bool.false_and,Bool.not_false,Bool.and_true,Bool.or_true]
 rfl
theorem step_new {s : Fst} {x : En} (ha : s.first.contains (enNm x) = false) (hk : s.known.contains (enNm x) = false) : stepF s x = if finT s.known.contains 40 x.t = true then ⟨s.known ++ [enNm x],s.first ++ [enNm x],s.left,true⟩ else { s with first := s.first ++ [enNm x],left := s.left + 1 } := by
 unfold stepF
 simp only [ha,hk,Bool.false_and,Bool.not_false,Bool.and_true,Bool.false_or,Bool.true_and]
 rfl
end Go.Proofs.YtbjddomocggjmaaGreat.Sc
end
section
namespace Go.Proofs.YtbjddomocggjmaaGreat.Sc
open Go.RowKit Go.ChangeShapes Go.WideShapes Go.Proofs.YtbjddomocggjmaaGreat.Sep
open Go.Proofs.YtbjddomocggjmaaGreatW.PrintWords
variable {B : Nat} {w0 w : World} {R : HP}
set_option maxHeartbeats 16000000 in
set_option maxRecDepth 100000 in
theorem finite_calls (A : Option Addr) (c : Nat) (l : List En) (h : S w0 w R) (hC : kEn.C w0 A l.length l) (ho : ∀ x ∈ l,oS x.m ∧ oS x.n ∧ Dp 40 x.t) (hl : l.length ≤ 1000000) :
  Calls Tryz.prog 17 #[.slice A l.length c] w fun e w' => e = .returned (.bool (finB l)) ∧ S w0 w' R := by
 have hl' : l.length ≤ 9223372036854775807 := by omega
 have HA := Lib.hid (And.intro hC (And.intro ho hl))
 have hmm := @run_makeMap Tryz.prog
 generalize hg : w.heap.size = g
 have H := Lib.hid (mv_made (n := g + 1) (mv_made (n := g) h hg.symm) (by simp [hg])).two
 clear h hC ho
 go_enter Tryz.func17,Tryz.ntmps17
 go_wp2
 go_loopg [5,6] (l.length + 2) (fun k v5 v6 wr => ∃ (gr : Bool) (lf : Nat) (K F : List (List UInt8)),v5 = .int .i64 lf ∧ v6 = .bool gr ∧ Hid (S w0 wr (MapV g (setM K) • (MapV (g + 1) (setM F) • R))) ∧ Hid (gr = false → finB l = decide (lf = 0)) ∧ Hid (gr = true → ∃ n,k = n + 1 ∧ finB l = finLoop n K l ∧ l.length < n + K.length ∧ K.Nodup ∧ ∀ y ∈ K, ∃ x ∈ l,enNm x = y))
 case atStart => exact ⟨true,0,[],[],rfl,rfl,H,Lib.hid (fun h => by cases h),Lib.hid (fun _ => ⟨_,rfl,rfl,by simp,by simp,by simp⟩)⟩
 case round =>
  clear H
  obtain ⟨gr,lf,K,F,rfl,rfl,HS,HF,HT⟩ := hrel
  cases gr with
  | false =>
   have HZ := Lib.hid (HF.out rfl)
   by_cases hz : lf = 0
   ·have p1 : ((lf : Int) == 0) = true := beq_iff_eq.2 (by omega)
    rw [decide_eq_true hz] at HZ
    clear hz
    go_wp2
    go_ret
    exact ⟨by rw [HZ.out]; rfl,HS.out.drop.drop⟩
   ·have p1 : ((lf : Int) == 0) = false := beq_eq_false_iff_ne.2 (by omega)
    rw [decide_eq_false hz] at HZ
    clear hz
    go_wp2
    go_ret
    exact ⟨by rw [HZ.out]; rfl,HS.out.drop.drop⟩
  | true =>
   obtain ⟨n,rfl,hfin,hlen,hnd,hsub⟩ := HT.out rfl
   have HN := Lib.hid (And.intro hfin (And.intro hlen (And.intro hnd hsub)))
   obtain ⟨wc,hrun,hclr⟩ := mv_clear (ty := 0) Tryz.underlying57 HS.out.two
   clear HT HF hfin hlen hnd hsub
   have HC0 := Lib.hid hclr
   clear hclr
   go_wp2_with fail
   go_loopw [5,6,17] (fun v5 v6 v17 wr => ∃ (x : Int) (st : Fst),0 ≤ x ∧ x ≤ l.length ∧ v17 = .int .i64 x ∧ v5 = .int .i64 st.left ∧ v6 = .bool st.grows ∧ Hid (stF K (l.take x.toNat) = st) ∧ Hid (S w0 wr (MapV g (setM st.known) • (MapV (g + 1) (setM st.first) • R))) ∧ Hid (Rk K l x.toNat st)) (fun _ _ v17 _ => l.length - (intOf v17).toNat)
   case atStart => exact ⟨0,⟨K,[],0,false⟩,Int.le_refl _,by omega,rfl,rfl,rfl,Lib.hid rfl,Lib.hid HC0.out.two,Lib.hid ⟨HN.out.2.2.1,fun _ h => .inl h,fun h => (by cases h),Nat.le_refl _,Nat.le_refl _,Nat.le_refl _,rfl⟩⟩
   case round =>
    clear HC0 HS hrun
    obtain ⟨x,st,hx0,hx1,rfl,rfl,rfl,HST,HR,HK⟩ := hrel
    by_cases hlt : x < l.length
    ·obtain ⟨ad,cs,eA,hcl0,hK,hcell0⟩ := Kd.C_get HA.out.1 zEn x hx0 hlt
     cases eA
     have hcell : ∀ (j : Nat) (u : Value),cs[j]? = some u → w0.cell? (ad.add (x.toNat * 18 + j)) = some u := hcell0
     have HG := Lib.hid (getD_mem l zEn x hx0 hlt)
     generalize l.getD x.toNat zEn = r at *
     obtain ⟨ts,hE⟩ := en_cells hK
     have HE := Lib.hid hE
     have HO := Lib.hid (HA.out.2.1 r (List.mem_of_getElem? HG.out))
     have z1 : r.m.size ≤ 140737488355328 := HO.out.1
     have z2 : r.n.size ≤ 140737488355328 := HO.out.2.1
     have z3 : (r.m ++ (⟨#[46]⟩ : ByteArray)).size = r.m.size + 1 := ByteArray.size_append
     have hs3 : (r.m ++ ⟨#[46]⟩ ++ r.n).size ≤ maxLen := by rw [ByteArray.size_append,z3]; simp only [maxLen]; omega
     have HS3 := Lib.hid hs3
     have e1 : (x + 1).toNat = x.toNat + 1 := by omega
     have HK2 : Hid (Rk K l (x + 1).toNat (stF K (l.take (x + 1).toNat))) := Lib.hid (by rw [stF_next hx0 HG.out,HST.out,e1]; exact rk_step HK.out (List.mem_of_getElem? HG.out))
     have hKl : K.length ≤ l.length := by
      have := nodup_len HN.out.2.2.1 (b := l.map enNm) fun k hk => by obtain ⟨y,hy,e⟩ := HN.out.2.2.2 k hk; exact List.mem_map.2 ⟨y,hy,e⟩
      rwa [List.length_map] at this
     have hlft : st.left ≤ 1000000 := by have := HK.out.left; have := HA.out.2.2; omega
     have HB : Hid ((setM st.first).length < maxLen ∧ (setM st.known).length < maxLen) := Lib.hid (by
      have h1 := HK.out.most
      have h2 := HK.out.first
      have h3 := HA.out.2.2
      simp only [setM,List.length_map,maxLen]
      omega)
     have HCl := Lib.hid hcell
     have p126 := eq_true hx0
     have q126 : (x < (l.length : Int)) = True := eq_true hlt
     clear hcell hcell0 hcl0 hK hE hs3 e1 hKl
     go_wp2_with (refine held_load 46 _ rfl ?_)
     refine ⟨?_⟩
     refine wpList_load_cells rfl 46 _ rfl _ rfl cs (elem_cells HR.out.below HCl.out) _ Tryz.underlying46 rfl (by rw [HE.out.len]; kernel_rfl) ?_
     go_wp2_with (refine held_store _ _ _ rfl ?_)
     refine ⟨?_⟩
     refine wpList_store_off rfl rfl cs rfl rfl rfl (by rw [HE.out.len]; kernel_rfl) HE.out.one (HR.out.alloc _) (by rw [HE.out.len]; simp) (new := cs.toArray) (fill_all (by rw [HE.out.len]; rfl)) ?_
     intro w6 h6
     generalize wr.heap.size = q at h6 ⊢
     have H6 := Lib.hid h6
     have d0 := h6.cell 0 (v := .string r.m) (by rw [List.getElem?_toArray]; exact HE.out.m)
     have d1 := h6.cell 1 (v := .string r.n) (by rw [List.getElem?_toArray]; exact HE.out.n)
     have lk := mv_look Tryz.underlying57 (zero_bool w6) h6.three (r.m ++ ⟨#[46]⟩ ++ r.n) HS3.out
     rw [look_set] at lk
     clear h6
     cases qa : st.first.contains (enNm r) with
     | true =>
      have lka := lk
      rw [show st.first.contains (r.m ++ ⟨#[46]⟩ ++ r.n).data.toList = true from qa] at lka
      clear lk
      go_wp2_with (at_mapUpdate; refine HeldT.out ?_)
      refine ⟨?_⟩
      refine wpList_putV Tryz.underlying57 rfl _ _ _ rfl rfl _ rfl _ rfl H6.out.three HS3.out HB.out.1 ?_
      intro w7 h7
      have H7 : Hid (S w0 w7 (MapV (g + 1) (setM (st.first ++ [enNm r])) • (MapV g (setM st.known) • (Blk q (.cells cs.toArray 46) • R)))) := Lib.hid (by rw [setM_snoc]; exact h7.three.two)
      clear h7 lka d0 d1 H6
      go_wp2_with (refine held_load 38 _ rfl ?_)
      refine ⟨?_⟩
      refine wpList_load_cells_w (by rfl) 38 _ rfl ⟨q,3,none⟩ rfl ts (fun j v hv => by rw [WideShapes.add_plain]; exact H7.out.three.cell (3 + j) (by rw [List.getElem?_toArray]; exact HE.out.typ j v hv)) _ Tryz.underlying38 rfl (by rw [HE.out.tlen]; kernel_rfl) ?_
      go_wp2_with fail
      refine (fin_at g st.known 40 _ _ r.t ts H7.out.two HE.out.kt HO.out.2.2).mono ?_
      rintro e w8 ⟨rfl,h8⟩
      have H8 := Lib.hid h8.three.drop
      clear h8
      cases qf : finT st.known.contains 40 r.t with
      | true =>
       have HST2 : Hid (stF K (l.take (x + 1).toNat) = { st with first := st.first ++ [enNm r] }) := Lib.hid (by rw [stF_next hx0 HG.out,HST.out,step_again qa,qf,if_pos rfl])
       have HR2 : Hid (Rk K l (x + 1).toNat { st with first := st.first ++ [enNm r] }) := Lib.hid (by rw [← HST2.out]; exact HK2.out)
       go_wp2
       exact ⟨⟨x + 1, { st with first := st.first ++ [enNm r] },by omega,by omega,by go_num,by first | rfl | (simp only [Value.int.injEq,true_and]; omega) | go_num,rfl,HST2,H8,HR2⟩,by simp only [intOf]; omega⟩
      | false =>
       have HST2 : Hid (stF K (l.take (x + 1).toNat) = { st with first := st.first ++ [enNm r],left := st.left + 1 }) := Lib.hid (by rw [stF_next hx0 HG.out,HST.out,step_again qa,qf,if_neg (by simp)])
       have lk2 := mv_look Tryz.underlying57 (zero_bool _) H8.out (r.m ++ ⟨#[46]⟩ ++ r.n) HS3.out
       rw [look_set] at lk2
       generalize st.known.contains (r.m ++ ⟨#[46]⟩ ++ r.n).data.toList = kn at lk2
       cases kn with
       | true =>
        have HR2 : Hid (Rk K l (x + 1).toNat { st with first := st.first ++ [enNm r],left := st.left + 1 }) := Lib.hid (by rw [← HST2.out]; exact HK2.out)
        go_wp2
        exact ⟨⟨x + 1, { st with first := st.first ++ [enNm r],left := st.left + 1 },by omega,by omega,by go_num,by first | rfl | (simp only [Value.int.injEq,true_and]; omega) | go_num,rfl,HST2,H8,HR2⟩,by simp only [intOf]; omega⟩
       | false =>
        have HR2 : Hid (Rk K l (x + 1).toNat { st with first := st.first ++ [enNm r],left := st.left + 1 }) := Lib.hid (by rw [← HST2.out]; exact HK2.out)
        go_wp2
        exact ⟨⟨x + 1, { st with first := st.first ++ [enNm r],left := st.left + 1 },by omega,by omega,by go_num,by first | rfl | (simp only [Value.int.injEq,true_and]; omega) | go_num,rfl,HST2,H8,HR2⟩,by simp only [intOf]; omega⟩
     | false =>
      have lka := lk
      rw [show st.first.contains (r.m ++ ⟨#[46]⟩ ++ r.n).data.toList = false from qa] at lka
      clear lk
      go_wp2_with (at_mapUpdate; refine HeldT.out ?_)
      refine ⟨?_⟩
      refine wpList_putV Tryz.underlying57 rfl _ _ _ rfl rfl _ rfl _ rfl H6.out.three HS3.out HB.out.1 ?_
      intro w7 h7
      have H7 : Hid (S w0 w7 (MapV (g + 1) (setM (st.first ++ [enNm r])) • (MapV g (setM st.known) • (Blk q (.cells cs.toArray 46) • R)))) := Lib.hid (by rw [setM_snoc]; exact h7.three.two)
      clear h7 lka d0 d1 H6
      have lk2 := mv_look Tryz.underlying57 (zero_bool _) H7.out.two (r.m ++ ⟨#[46]⟩ ++ r.n) HS3.out
      rw [look_set] at lk2
      cases qk : st.known.contains (enNm r) with
      | true =>
       rw [show st.known.contains (r.m ++ ⟨#[46]⟩ ++ r.n).data.toList = true from qk] at lk2
       have HST2 : Hid (stF K (l.take (x + 1).toNat) = { st with first := st.first ++ [enNm r] }) := Lib.hid (by rw [stF_next hx0 HG.out,HST.out,step_known qa qk])
       have H8 := Lib.hid H7.out.three.drop.two
       have HR2 : Hid (Rk K l (x + 1).toNat { st with first := st.first ++ [enNm r] }) := Lib.hid (by rw [← HST2.out]; exact HK2.out)
       go_wp2
       exact ⟨⟨x + 1, { st with first := st.first ++ [enNm r] },by omega,by omega,by go_num,by first | rfl | (simp only [Value.int.injEq,true_and]; omega) | go_num,rfl,HST2,H8,HR2⟩,by simp only [intOf]; omega⟩
      | false =>
       rw [show st.known.contains (r.m ++ ⟨#[46]⟩ ++ r.n).data.toList = false from qk] at lk2
       go_wp2_with (refine held_load 38 _ rfl ?_)
       refine ⟨?_⟩
       refine wpList_load_cells_w (by rfl) 38 _ rfl ⟨q,3,none⟩ rfl ts (fun j v hv => by rw [WideShapes.add_plain]; exact H7.out.three.cell (3 + j) (by rw [List.getElem?_toArray]; exact HE.out.typ j v hv)) _ Tryz.underlying38 rfl (by rw [HE.out.tlen]; kernel_rfl) ?_
       go_wp2_with fail
       refine (fin_at g st.known 40 _ _ r.t ts H7.out.two HE.out.kt HO.out.2.2).mono ?_
       rintro e w8 ⟨rfl,h8⟩
       have H8 := Lib.hid h8.three.drop
       clear h8
       cases qf : finT st.known.contains 40 r.t with
       | true =>
        have HST2 : Hid (stF K (l.take (x + 1).toNat) = ⟨st.known ++ [enNm r],st.first ++ [enNm r],st.left,true⟩) := Lib.hid (by rw [stF_next hx0 HG.out,HST.out,step_new qa qk,qf,if_pos rfl])
        go_wp2_with (at_mapUpdate; refine HeldT.out ?_)
        refine ⟨?_⟩
        refine wpList_putV Tryz.underlying57 rfl _ _ _ rfl rfl _ rfl _ rfl H8.out HS3.out HB.out.2 ?_
        intro w9 h9
        have H9 : Hid (S w0 w9 (MapV g (setM (st.known ++ [enNm r])) • (MapV (g + 1) (setM (st.first ++ [enNm r])) • R))) := Lib.hid (by rw [setM_snoc st.known]; exact h9)
        clear h9
        have HR2 : Hid (Rk K l (x + 1).toNat ⟨st.known ++ [enNm r],st.first ++ [enNm r],st.left,true⟩) := Lib.hid (by rw [← HST2.out]; exact HK2.out)
        go_wp2
        exact ⟨⟨x + 1,⟨st.known ++ [enNm r],st.first ++ [enNm r],st.left,true⟩,by omega,by omega,by go_num,by first | rfl | (simp only [Value.int.injEq,true_and]; omega) | go_num,rfl,HST2,H9,HR2⟩,by simp only [intOf]; omega⟩
       | false =>
        have HST2 : Hid (stF K (l.take (x + 1).toNat) = { st with first := st.first ++ [enNm r],left := st.left + 1 }) := Lib.hid (by rw [stF_next hx0 HG.out,HST.out,step_new qa qk,qf,if_neg (by simp)])
        have HR2 : Hid (Rk K l (x + 1).toNat { st with first := st.first ++ [enNm r],left := st.left + 1 }) := Lib.hid (by rw [← HST2.out]; exact HK2.out)
        go_wp2
        exact ⟨⟨x + 1, { st with first := st.first ++ [enNm r],left := st.left + 1 },by omega,by omega,by go_num,by first | rfl | (simp only [Value.int.injEq,true_and]; omega) | go_num,rfl,HST2,H8,HR2⟩,by simp only [intOf]; omega⟩
    ·have hlt' : (x < (l.length : Int)) = False := eq_false hlt
     have e1 : l.take x.toNat = l := List.take_of_length_le (by omega)
     have HST2 : Hid (roundF K l = st) := Lib.hid (by have := HST.out; rwa [e1] at this)
     have hKl : K.length ≤ l.length := by
      have := nodup_len HN.out.2.2.1 (b := l.map enNm) fun k hk => by obtain ⟨y,hy,e⟩ := HN.out.2.2.2 k hk; exact List.mem_map.2 ⟨y,hy,e⟩
      rwa [List.length_map] at this
     obtain ⟨n',rfl⟩ : ∃ n',n = n' + 1 := ⟨n - 1,by have := HN.out.2.1; omega⟩
     have HF2 : Hid (st.grows = false → finB l = decide (st.left = 0)) := Lib.hid (fun hg => by
      rw [HN.out.1]
      unfold finLoop
      rw [HST2.out,hg,if_neg (by simp)])
     have HT2 : Hid (st.grows = true → ∃ n,n' + 1 = n + 1 ∧ finB l = finLoop n st.known l ∧ l.length < n + st.known.length ∧ st.known.Nodup ∧ ∀ y ∈ st.known, ∃ x ∈ l,enNm x = y) := Lib.hid (fun hg => by
      refine ⟨n',rfl, ?_, ?_,HK.out.nodup,fun y hy => ?_⟩
      ·rw [HN.out.1]
       show (if (roundF K l).grows = true then finLoop n' (roundF K l).known l else decide ((roundF K l).left = 0)) = _
       rw [HST2.out,hg,if_pos rfl]
      ·have := HK.out.grew hg
       have := HN.out.2.1
       omega
      ·rcases HK.out.sub y hy with h | h
       ·exact HN.out.2.2.2 y h
       ·exact h)
     clear e1 hKl
     go_wp2
     go_roundg (n' + 1)
     case measure => omega
     case rel => exact ⟨st.grows,st.left,st.known,st.first,rfl,rfl,HR,HF2,HT2⟩
end Go.Proofs.YtbjddomocggjmaaGreat.Sc
end
