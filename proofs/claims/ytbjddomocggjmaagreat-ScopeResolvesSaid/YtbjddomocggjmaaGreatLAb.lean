/- Several maps; imports of scope: walked. -/
import Derived.Test.YtbjddomocggjmaaGreatLS
import Derived.Test.YtbjddomocggjmaaGreatLAa
section
namespace Go.Proofs.YtbjddomocggjmaaGreat.Sc
open Go.RowKit Go.ChangeShapes Go.WideShapes Go.Proofs.YtbjddomocggjmaaGreat.Sep
open Go.Proofs.YtbjddomocggjmaaGreatW.PrintWords
variable {B : Nat} {w0 w : World} {R : HP}
def onlyIf (q : Bool) (A C : HP) : HP := cond q A C
theorem take_next {α β : Type} (f : α → β) {l : List α} {x : Int} {r : α} (h0 : 0 ≤ x) (h : l[x.toNat]? = some r) : (l.map f).take (x + 1).toNat = (l.map f).take x.toNat ++ [f r] := by
 have e : (x + 1).toNat = x.toNat + 1 := by omega
 rw [e,List.take_add_one,List.getElem?_map,h]
 rfl
theorem strM_snoc (fm : FM) (k : List UInt8) (s : ByteArray) : strM (fm ++ [(k,s)]) = strM fm ++ [(k,.string s)] := by simp [strM]
theorem kys_snoc (l : List ByteArray) (s : ByteArray) : kys (l ++ [s]) = kys l ++ [s.data.toList] := by simp [kys]
theorem once_take {l : List ByteArray} {j : Nat} {s : ByteArray} (h : l.take (j + 1) = l.take j ++ [s]) (hq : (kys (l.take j)).contains s.data.toList = true) : onceB l = false := by
 unfold onceB
 rw [decide_eq_false_iff_not]
 intro hnd
 have h1 : (kys (l.take (j + 1))).Nodup := by
  have e : kys (l.take (j + 1)) = (kys l).take (j + 1) := by simp [kys,List.map_take]
  rw [e]
  exact hnd.sublist (List.take_sublist _ _)
 rw [h,kys_snoc,List.nodup_append] at h1
 exact h1.2.2 _ (List.contains_iff_mem.1 hq) _ (by simp) rfl
theorem nodup_next {l : List ByteArray} {j : Nat} {s : ByteArray} (h : l.take (j + 1) = l.take j ++ [s]) (hn : (kys (l.take j)).Nodup) (hq : (kys (l.take j)).contains s.data.toList = false) : (kys (l.take (j + 1))).Nodup := by
 rw [h,kys_snoc,List.nodup_append]
 refine ⟨hn,by simp,fun a ha b hb => ?_⟩
 obtain rfl := List.mem_singleton.1 hb
 rintro rfl
 rw [List.contains_iff_mem.2 ha] at hq
 cases hq
set_option maxHeartbeats 16000000 in
set_option maxRecDepth 100000 in
theorem owned_calls (m : Md) (A2 : Option Addr) (c2 : Nat) (A3 : Option Addr) (c3 : Nat) (h : S w0 w R) (l3 : kDf.C w0 A3 m.df.length m.df) (ho : oMd m) (hl : m.df.length ≤ 256) :
  Calls Tryz.prog 14 #[.agg #[.string m.n,.bool m.au,.slice A2 m.im.length c2,.slice A3 m.df.length c3]] w fun e w' => ∃ b bo,e = .returned (.tuple #[.agg #[.map (some b),.map (some bo)],.bool (onceB (dfNames m))]) ∧
   S w0 w' (onlyIf (onceB (dfNames m)) (MapV b (strM (ownP m)) • (MapV bo (setM (kys (dfNames m))) • R)) R) := by
 have hl' : m.df.length ≤ 9223372036854775807 := by omega
 have HA := Lib.hid (And.intro l3 (And.intro ho hl))
 have hmm := @run_makeMap Tryz.prog
 generalize hg : w.heap.size = g
 have H := Lib.hid (alloc_at (n := g + 4) (mv_made (n := g + 3) (mv_made (n := g + 2) (alloc_at (n := g + 1) (alloc_at (n := g) h (.cells #[.string m.n,.bool m.au,.slice A2 m.im.length c2,.slice A3 m.df.length c3] 44) hg.symm) (.cells #[.map none,.map none] 59) (by simp [hg])) (by simp [hg])) (by simp [hg])) (.cells #[.map none,.map none] 59) (by simp [hg]))
 clear h l3 ho hl
 go_enter Tryz.func14,Tryz.ntmps14
 go_wp2_with (refine held_store _ _ _ rfl ?_)
 refine ⟨?_⟩
 refine wpList_store_off rfl rfl [.map (some (g + 2)),.map (some (g + 3))] rfl rfl rfl (by kernel_rfl) (by simp [Value.oneCell']) H.out (by simp) (new := #[.map (some (g + 2)),.map (some (g + 3))]) rfl ?_
 intro w5 h5
 have H5 := Lib.hid h5.two.three.three
 have e3 := (five h5).cell 3 rfl
 clear h5 H hmm
 go_wp2
 go_loopw [13] (fun v wr => ∃ x : Int,0 ≤ x ∧ x ≤ m.df.length ∧ v = .int .i64 x ∧ Hid (S w0 wr (Blk (g + 4) (.cells #[.map (some (g + 2)),.map (some (g + 3))] 59) • (MapV (g + 2) (strM ((ownP m).take x.toNat)) • (MapV (g + 3) (setM (kys ((dfNames m).take x.toNat))) • (Blk (g + 1) (.cells #[.map none,.map none] 59) • (Blk g (.cells #[.string m.n,.bool m.au,.slice A2 m.im.length c2,.slice A3 m.df.length c3] 44) • R)))))) ∧ Hid ((kys ((dfNames m).take x.toNat)).Nodup)) (fun v _ => m.df.length - (intOf v).toNat)
 case atStart => exact ⟨0,Int.le_refl _,by omega,rfl,H5,Lib.hid (by simp [kys])⟩
 case round =>
  clear H5 e3
  obtain ⟨x,hx0,hx1,rfl,HR,HT⟩ := hrel
  by_cases hlt : x < m.df.length
  ·obtain ⟨ad,cs,rfl,hcl,hK,hcell0⟩ := Kd.C_get HA.out.1 zDf x hx0 hlt
   have hcell : ∀ (j : Nat) (u : Value),cs[j]? = some u → w0.cell? (ad.add (x.toNat * 16 + j)) = some u := hcell0
   have HG := Lib.hid (getD_mem m.df zDf x hx0 hlt)
   generalize m.df.getD x.toNat zDf = r at *
   have hcl : cs.length = 16 := hcl
   have hc0 : cs[0]? = some (.string r.n) := by obtain ⟨ts,rfl, -⟩ := kDf_open hK; rfl
   have h1 : ∀ u ∈ cs,u.oneCell' = true := kDf.K_one hK
   have hor := HA.out.2.1.2.2.2 r (List.mem_of_getElem? HG.out)
   have hs : r.n.size ≤ maxLen := by have := hor.1; simp only [oS,M] at this; simp only [maxLen]; omega
   have HC := Lib.hid (And.intro hcell (And.intro hcl (And.intro hc0 (And.intro h1 hs))))
   have p126 := eq_true hx0
   have q126 : (x < (m.df.length : Int)) = True := eq_true hlt
   have HK := Lib.hid (And.intro (take_next (fun d : Df => d.n) hx0 HG.out) (take_next (fun d : Df => (d.n.data.toList,dotB m.n d.n)) hx0 HG.out))
   clear hcell hcell0 hcl hc0 hs h1 hK hor
   go_wp2_with (refine held_load 40 _ rfl ?_)
   refine ⟨?_⟩
   refine wpList_load_cells rfl 40 _ rfl _ rfl cs (elem_cells HR.out.below HC.out.1) _ Tryz.underlying40 rfl (by rw [HC.out.2.1]; kernel_rfl) ?_
   go_wp2_with (refine held_store _ _ _ rfl ?_)
   refine ⟨?_⟩
   refine wpList_store_off rfl rfl cs rfl rfl rfl (by rw [HC.out.2.1]; kernel_rfl) HC.out.2.2.2.1 (HR.out.alloc _) (by rw [HC.out.2.1]; simp) (new := cs.toArray) (fill_all (by rw [HC.out.2.1]; rfl)) ?_
   intro w6 h6
   have H6 := Lib.hid h6
   clear h6
   have e0 := H6.out.two.cell 0 rfl
   have e1 := H6.out.two.cell 1 rfl
   have d0 := H6.out.cell 0 (v := .string r.n) (by rw [List.getElem?_toArray]; exact HC.out.2.2.1)
   have lk := mv_look Tryz.underlying57 (zero_bool w6) (four H6.out) r.n HC.out.2.2.2.2
   rw [look_set] at lk
   have HN : Hid ((setM (kys ((dfNames m).take x.toNat))).length < maxLen ∧ (strM ((ownP m).take x.toNat)).length < maxLen) := Lib.hid (by
    have := HA.out.2.2
    simp only [setM,strM,kys,ownP,dfNames,List.length_map,List.length_take,maxLen]
    omega)
   cases hq : (kys ((dfNames m).take x.toNat)).contains r.n.data.toList with
   | true =>
    rw [hq] at lk
    have HZ := Lib.hid (once_take (j := x.toNat) (by have := HK.out.1; rwa [show (x + 1).toNat = x.toNat + 1 by omega] at this) hq)
    clear hq
    go_wp2_with (refine held_store _ _ _ rfl ?_)
    refine ⟨?_⟩
    refine wpList_store_off rfl rfl [.map (some (g + 2)),.map (some (g + 3))] rfl rfl rfl (by kernel_rfl) (by simp [Value.oneCell']) (five H6.out) (by simp) (new := #[.map (some (g + 2)),.map (some (g + 3))]) rfl ?_
    intro w7 h7
    have H7 := Lib.hid h7
    clear h7
    go_wp2
    refine bodyPost_ret (v := .tuple #[.agg #[.map (some (g + 2)),.map (some (g + 3))],.bool false]) (results_row_tmp Tryz.results14 _ _ (g + 1) _ _ (0,0) _ rfl H7.out.block Tryz.underlying59 rfl (by kernel_rfl) rfl) rfl ⟨g + 2,g + 3,by rw [HZ.out],by rw [HZ.out]; exact H7.out.drop.drop.drop.drop.drop.drop⟩
   | false =>
    rw [hq] at lk
    have HZ := Lib.hid (nodup_next (j := x.toNat) (by have := HK.out.1; rwa [show (x + 1).toNat = x.toNat + 1 by omega] at this) HT.out hq)
    clear hq
    go_wp2_with (at_mapUpdate; refine HeldT.out ?_)
    refine ⟨?_⟩
    refine wpList_putV Tryz.underlying57 rfl _ _ _ rfl rfl _ rfl _ rfl (four H6.out) HC.out.2.2.2.2 HN.out.1 ?_
    intro w7 h7
    have H7 := Lib.hid h7
    clear h7 e0 e1 d0 lk
    have e0 := H7.out.three.cell 0 rfl
    have d0 := H7.out.two.cell 0 (v := .string r.n) (by rw [List.getElem?_toArray]; exact HC.out.2.2.1)
    have n0 := (six H7.out).cell 0 rfl
    have z1 : m.n.size ≤ 140737488355328 := HA.out.2.1.1
    have z2 : r.n.size ≤ 140737488355328 := by have := HC.out.2.2.2.2; exact (HA.out.2.1.2.2.2 r (List.mem_of_getElem? HG.out)).1
    have z3 : (m.n ++ (⟨#[46]⟩ : ByteArray)).size = m.n.size + 1 := ByteArray.size_append
    go_wp2_with (at_mapUpdate; refine HeldT.out ?_)
    refine ⟨?_⟩
    refine wpList_putV Tryz.underlying56 rfl _ _ _ rfl rfl _ rfl (.string (dotB m.n r.n)) rfl (four H7.out) HC.out.2.2.2.2 HN.out.2 ?_
    intro w8 h8
    have H8 : Hid (S w0 w8 (Blk (g + 4) (.cells #[.map (some (g + 2)),.map (some (g + 3))] 59) • (MapV (g + 2) (strM ((ownP m).take (x + 1).toNat)) • (MapV (g + 3) (setM (kys ((dfNames m).take (x + 1).toNat))) • (Blk (g + 1) (.cells #[.map none,.map none] 59) • (Blk g (.cells #[.string m.n,.bool m.au,.slice A2 m.im.length c2,.slice (some ad) m.df.length c3] 44) • R)))))) := Lib.hid (by
     have e5 : dfNames m = m.df.map fun d => d.n := rfl
     have e6 : ownP m = m.df.map fun d => (d.n.data.toList,dotB m.n d.n) := rfl
     rw [e5,e6,HK.out.1,HK.out.2,strM_snoc,kys_snoc,setM_snoc]
     exact h8.three.drop.three)
    rw [← show (x + 1).toNat = x.toNat + 1 by omega] at HZ
    clear h8 e0 d0 n0 z1 z2 z3
    go_wp2
    exact ⟨⟨x + 1,by omega,by omega,by go_num,H8,HZ⟩,by simp only [intOf]; omega⟩
  ·have hlt' : (x < (m.df.length : Int)) = False := eq_false hlt
   have hx : m.df.length ≤ x.toNat := by omega
   have HZ : Hid (onceB (dfNames m) = true) := Lib.hid (by
    unfold onceB
    rw [decide_eq_true_iff]
    have h := HT.out
    rwa [List.take_of_length_le (by simp only [dfNames,List.length_map]; omega)] at h)
   have HE := HR.out
   rw [show (dfNames m).take x.toNat = dfNames m from List.take_of_length_le (by simp only [dfNames,List.length_map]; omega),show (ownP m).take x.toNat = ownP m from List.take_of_length_le (by simp only [ownP,List.length_map]; omega)] at HE
   have HE2 := Lib.hid HE
   have e0 := HE.cell 0 rfl
   have e1 := HE.cell 1 rfl
   clear HE hx
   go_wp2_with (refine held_store _ _ _ rfl ?_)
   refine ⟨?_⟩
   refine wpList_store_off rfl rfl [.map (some (g + 2)),.map (some (g + 3))] rfl rfl rfl (by kernel_rfl) (by simp [Value.oneCell']) (four HE2.out) (by simp) (new := #[.map (some (g + 2)),.map (some (g + 3))]) rfl ?_
   intro w7 h7
   have H7 := Lib.hid h7
   clear h7
   go_wp2
   refine bodyPost_ret (v := .tuple #[.agg #[.map (some (g + 2)),.map (some (g + 3))],.bool true]) (results_row_tmp Tryz.results14 _ _ (g + 1) _ _ (0,0) _ rfl H7.out.block Tryz.underlying59 rfl (by kernel_rfl) rfl) rfl ⟨g + 2,g + 3,by rw [HZ.out],by rw [HZ.out]; exact H7.out.drop.drop.three.drop⟩
end Go.Proofs.YtbjddomocggjmaaGreat.Sc
end
section
namespace Go.Proofs.YtbjddomocggjmaaGreat.Sc
open Go.RowKit Go.ChangeShapes Go.WideShapes Go.Proofs.YtbjddomocggjmaaGreat.Sep
open Go.Proofs.YtbjddomocggjmaaGreatW.PrintWords
variable {B : Nat} {w0 w : World} {R : HP}
open Go.Maps Go.ChangeMaps Go.MapKept
def MapsV : List (Nat × Kv) → HP
 | [] => emp
 | p :: l => MapV p.1 p.2 • MapsV l
theorem maps_out : ∀ {l : List (Nat × Kv)} {i : Nat} {p : Nat × Kv} {R : HP},l[i]? = some p → St B w0 w (MapsV l • R) → St B w0 w (MapV p.1 p.2 • (MapsV (l.eraseIdx i) • R))
 | q :: l,0,p,R,hi,h => by
  cases hi
  exact St.assoc h
 | q :: l,i + 1,p,R,hi,h => by
  have h1 := maps_out (R := MapV q.1 q.2 • R) (show l[i]? = some p from hi) (St.assoc h).two
  exact h1.two.three.assoc'.two
theorem maps_in : ∀ {l : List (Nat × Kv)} {i : Nat} {p : Nat × Kv} {m : Kv} {R : HP},l[i]? = some p → St B w0 w (MapV p.1 m • (MapsV (l.eraseIdx i) • R)) → St B w0 w (MapsV (l.set i (p.1,m)) • R)
 | q :: l,0,p,m,R,hi,h => by
  cases hi
  exact St.assoc' h
 | q :: l,i + 1,p,m,R,hi,h => by
  have h1 := maps_in (R := MapV q.1 q.2 • R) (show l[i]? = some p from hi) (St.assoc h.two).two.three
  exact St.assoc' h1.two
theorem maps_add : ∀ {l : List (Nat × Kv)} {b : Nat} {m : Kv} {R : HP},St B w0 w (MapV b m • (MapsV l • R)) → St B w0 w (MapsV (l ++ [(b,m)]) • R)
 | [],b,m,R,h => St.assoc' h
 | q :: l,b,m,R,h => by
  have h1 := maps_add (b := b) (m := m) (R := MapV q.1 q.2 • R) (St.assoc h.two).two.three
  exact St.assoc' h1.two
def ownsV (l : List Md) (bs : List (Nat × Nat)) : List (Nat × Kv) := List.zipWith (fun m b => (b.2,setM (kys (dfNames m)))) l bs
def ofM (l : List Md) (bs : List (Nat × Nat)) : Kv := List.zipWith (fun m b => (m.n.data.toList,Value.agg #[.map (some b.1),.map (some b.2)])) l bs
theorem zip_get {α β γ : Type} {f : α → β → γ} {l : List α} {bs : List β} {i : Nat} {a : α} {b : β} (h1 : l[i]? = some a) (h2 : bs[i]? = some b) : (List.zipWith f l bs)[i]? = some (f a b) := by
 rw [List.getElem?_zipWith,h1,h2]
theorem ofM_look {l : List Md} {bs : List (Nat × Nat)} (hl : bs.length = l.length) (k : List UInt8) :
  (lookK (ofM l bs) k = none ∧ ∀ m ∈ l,m.n.data.toList ≠ k) ∨ ∃ (j : Nat) (m : Md) (b : Nat × Nat),l[j]? = some m ∧ bs[j]? = some b ∧ m.n.data.toList = k ∧ lookK (ofM l bs) k = some (.agg #[.map (some b.1),.map (some b.2)]) := by
 unfold lookK
 cases h : (ofM l bs).reverse.find? fun p => p.1 == k with
 | none =>
  refine .inl ⟨rfl,fun m hm e => ?_⟩
  obtain ⟨i,hi⟩ := List.getElem?_of_mem hm
  have hil := (List.getElem?_eq_some_iff.1 hi).1
  have h2 := zip_get (f := fun (m : Md) (b : Nat × Nat) => (m.n.data.toList,Value.agg #[.map (some b.1),.map (some b.2)])) hi (List.getElem?_eq_getElem (show i < bs.length by omega))
  have h3 := List.find?_eq_none.1 h _ (List.mem_reverse.2 (List.mem_of_getElem? h2))
  exact h3 (beq_iff_eq.2 e)
 | some p =>
  have h1 := List.find?_some h
  have h2 := List.mem_reverse.1 (List.mem_of_find?_eq_some h)
  obtain ⟨i,hi⟩ := List.getElem?_of_mem h2
  unfold ofM at hi
  rw [List.getElem?_zipWith] at hi
  cases h3 : l[i]? with
  | none => rw [h3] at hi; cases hi
  | some m =>
   cases h4 : bs[i]? with
   | none => rw [h3,h4] at hi; cases hi
   | some b =>
    rw [h3,h4] at hi
    cases hi
    exact .inr ⟨i,m,b,h3,h4,beq_iff_eq.1 h1,rfl⟩
theorem ownHas_none {l : List Md} {fr : ByteArray} (h : ∀ m ∈ l,m.n.data.toList ≠ fr.data.toList) (s : ByteArray) : ownHas l fr s = false := by
 unfold ownHas
 rw [List.find?_eq_none.2 fun m hm => by simpa using h m hm]
 rfl
theorem nodup_inj {α β : Type} {f : α → β} : ∀ {l : List α},(l.map f).Nodup → ∀ {i j : Nat} {a b : α},l[i]? = some a → l[j]? = some b → f a = f b → i = j
 | x :: l,h,i,j,a,b,hi,hj,e => by
  rw [List.map_cons,List.nodup_cons] at h
  cases i with
  | zero =>
   cases j with
   | zero => rfl
   | succ j => cases hi; exact absurd (List.mem_map.2 ⟨b,List.mem_of_getElem? (show l[j]? = some b from hj),e.symm⟩) h.1
  | succ i =>
   cases j with
   | zero => cases hj; exact absurd (List.mem_map.2 ⟨a,List.mem_of_getElem? (show l[i]? = some a from hi),e⟩) h.1
   | succ j => rw [nodup_inj h.2 (show l[i]? = some a from hi) (show l[j]? = some b from hj) e]
theorem names_inj {l : List Md} (hn : onceB (mdNames l) = true) {i j : Nat} {a b : Md} (hi : l[i]? = some a) (hj : l[j]? = some b) (e : a.n.data.toList = b.n.data.toList) : i = j := by
 have h : (l.map fun m => m.n.data.toList).Nodup := by
  have := of_decide_eq_true hn
  unfold kys mdNames at this
  rwa [List.map_map] at this
 exact nodup_inj h hi hj e
theorem ownHas_at {l : List Md} (hn : onceB (mdNames l) = true) {j : Nat} {m : Md} (hj : l[j]? = some m) {fr : ByteArray} (e : m.n.data.toList = fr.data.toList) (s : ByteArray) : ownHas l fr s = (kys (dfNames m)).contains s.data.toList := by
 unfold ownHas
 cases h : l.find? fun m => m.n.data.toList == fr.data.toList with
 | none => exact absurd (beq_iff_eq.2 e) (List.find?_eq_none.1 h m (List.mem_of_getElem? hj))
 | some m' =>
  obtain ⟨i,hi⟩ := List.getElem?_of_mem (List.mem_of_find?_eq_some h)
  have h1 : m'.n.data.toList = fr.data.toList := beq_iff_eq.1 (List.find?_some (p := fun m : Md => m.n.data.toList == fr.data.toList) h)
  have h2 := names_inj hn hi hj (h1.trans e.symm)
  subst h2
  rw [hi] at hj
  cases hj
  rfl
end Go.Proofs.YtbjddomocggjmaaGreat.Sc
end
