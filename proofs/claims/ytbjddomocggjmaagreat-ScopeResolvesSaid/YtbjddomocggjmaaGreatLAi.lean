/- finite of the reference of layer 10: walked. -/
import Derived.Test.YtbjddomocggjmaaGreatLQ
import Derived.Test.YtbjddomocggjmaaGreatLAh
section
namespace Go.Proofs.YtbjddomocggjmaaGreat.Sc
open Go.RowKit Go.ChangeShapes Go.WideShapes Go.Proofs.YtbjddomocggjmaaGreat.Sep
open Go.Proofs.YtbjddomocggjmaaGreatW.PrintWords
variable {B : Nat} {w0 w : World} {R : HP}
set_option maxHeartbeats 16000000 in
set_option maxRecDepth 100000 in
theorem rpnames_calls (A : Option Addr) (c : Nat) (l : List (Pt Ty)) (A' : Option Addr) (c' : Nat) (l' : List (Pt Ty)) (h : S w0 w R) (hC : kPt.C w0 A l.length l) (hC' : kPt.C w0 A' l'.length l') (hb : l.length ≤ 256) (hb' : l'.length ≤ 256) :
  Calls Tryz.prog 47 #[.slice A l.length c,.slice A' l'.length c'] w fun e w' => ∃ v,e = .returned v ∧ S w0 w' (RowV 9 1 v (ptNames l ++ ptNames l').length (strV (ptNames l ++ ptNames l')) • R) := by
 have HC := Lib.hid (And.intro hC (And.intro hC' (And.intro hb hb')))
 have hl : l.length ≤ 9223372036854775807 := by omega
 have hl' : l'.length ≤ 9223372036854775807 := by omega
 have H : Hid (S w0 w (RowV 9 1 (.slice none 0 0) ([] : List ByteArray).length (strV []) • R)) := Lib.hid (h.nil _ _)
 clear h hC hC' hb hb'
 go_enter Tryz.func47,Tryz.ntmps47
 go_wp2
 go_loopw [5,6] (fun vo v wr => ∃ (va : Value) (x : Int) (L : List ByteArray),va = vo ∧ 0 ≤ x ∧ x ≤ l.length ∧ v = .int .i64 x ∧ Hid (S w0 wr (RowV 9 1 va L.length (strV L) • R)) ∧ Hid (L = ptNames (l.take x.toNat))) (fun _ v _ => l.length - (intOf v).toNat)
 case atStart => exact ⟨_,0,[],rfl,Int.le_refl _,by omega,rfl,H,Lib.hid (by simp [ptNames])⟩
 case round =>
  clear H
  obtain ⟨va,x,L,rfl,hx0,hx1,rfl,HR,HL⟩ := hrel
  by_cases hlt : x < l.length
  ·obtain ⟨ad,cs,eA,hcl0,hK,hcell0⟩ := Kd.C_get HC.out.1 zPt x hx0 hlt
   cases eA
   have hcell : ∀ (j : Nat) (u : Value),cs[j]? = some u → w0.cell? (ad.add (x.toNat * 18 + j)) = some u := hcell0
   have HG := Lib.hid (getD_mem l zPt x hx0 hlt)
   generalize l.getD x.toNat zPt = r at *
   obtain ⟨ts,A17,c17,rfl, -⟩ := kPt_open (show kPt.K w0 r cs from hK)
   have d0 : wr.cell? (ad.add (x.toNat * 18)) = some (.string r.n) := pw_cell_below HR.out.below (hcell 0 _ rfl)
   have p126 := eq_true hx0
   have q126 : (x < (l.length : Int)) = True := eq_true hlt
   have hLb : Hid (L.length + 1 ≤ 256) := Lib.hid (by have := HC.out.2.2.1; rw [HL.out,ptNames,List.length_map,List.length_take]; omega)
   clear hcell hcell0 hcl0 hK
   go_wp2_with (at_builtin; refine Held.out ?_)
   refine ⟨?_⟩
   refine wpList_append_blk (by rfl) _ _ Tryz.underlying34 info_strs rfl (by decide) rfl va L.length (strV L) rfl (cs := [.string r.n]) (HR.out.alloc _) rfl rfl (by simp [Value.oneCell']) (by have := hLb.out; simp only [maxLen]; omega) (by have := hLb.out; omega) ?_
   intro v5 w5 h5
   have H5 : Hid (S w0 w5 (RowV 9 1 v5 (L ++ [r.n]).length (strV (L ++ [r.n])) • R)) := Lib.hid (by
    have := h5.two.drop
    rw [strV_snoc] at this
    rwa [List.length_append,List.length_singleton])
   have HL2 : Hid (L ++ [r.n] = ptNames (l.take (x + 1).toNat)) := Lib.hid (by rw [take_nextR hx0 HG.out,ptNames,List.map_append,HL.out]; rfl)
   clear h5 d0
   go_wp2
   exact ⟨⟨_,x + 1,_,rfl,by omega,by omega,by go_num,H5,HL2⟩,by simp only [intOf]; omega⟩
  ·have hlt' : (x < (l.length : Int)) = False := eq_false hlt
   have HLs : Hid (L = ptNames l ++ ptNames (l'.take (0 : Int).toNat)) := Lib.hid (by
    have h := HL.out
    rw [List.take_of_length_le (by omega)] at h
    rw [h]
    simp [ptNames])
   clear HL
   go_wp2
   go_loopw [5,7] (fun vo v wr => ∃ (va : Value) (x : Int) (L : List ByteArray),va = vo ∧ 0 ≤ x ∧ x ≤ l'.length ∧ v = .int .i64 x ∧ Hid (S w0 wr (RowV 9 1 va L.length (strV L) • R)) ∧ Hid (L = ptNames l ++ ptNames (l'.take x.toNat))) (fun _ v _ => l'.length - (intOf v).toNat)
   case atStart => exact ⟨_,0,_,rfl,Int.le_refl _,by omega,rfl,HR,HLs⟩
   case round =>
    clear HR HLs
    obtain ⟨va,x,L,rfl,hx0,hx1,rfl,HR,HL⟩ := hrel
    by_cases hlt : x < l'.length
    ·obtain ⟨ad,cs,eA,hcl0,hK,hcell0⟩ := Kd.C_get HC.out.2.1 zPt x hx0 hlt
     cases eA
     have hcell : ∀ (j : Nat) (u : Value),cs[j]? = some u → w0.cell? (ad.add (x.toNat * 18 + j)) = some u := hcell0
     have HG := Lib.hid (getD_mem l' zPt x hx0 hlt)
     generalize l'.getD x.toNat zPt = r at *
     obtain ⟨ts,A17,c17,rfl, -⟩ := kPt_open (show kPt.K w0 r cs from hK)
     have d0 : wr.cell? (ad.add (x.toNat * 18)) = some (.string r.n) := pw_cell_below HR.out.below (hcell 0 _ rfl)
     have p126 := eq_true hx0
     have q126 : (x < (l'.length : Int)) = True := eq_true hlt
     have hLb : Hid (L.length + 1 ≤ 512) := Lib.hid (by have := HC.out.2.2.1; have := HC.out.2.2.2; rw [HL.out,ptNames,ptNames,List.length_append,List.length_map,List.length_map,List.length_take]; omega)
     clear hcell hcell0 hcl0 hK
     go_wp2_with (at_builtin; refine Held.out ?_)
     refine ⟨?_⟩
     refine wpList_append_blk (by rfl) _ _ Tryz.underlying34 info_strs rfl (by decide) rfl va L.length (strV L) rfl (cs := [.string r.n]) (HR.out.alloc _) rfl rfl (by simp [Value.oneCell']) (by have := hLb.out; simp only [maxLen]; omega) (by have := hLb.out; omega) ?_
     intro v5 w5 h5
     have H5 : Hid (S w0 w5 (RowV 9 1 v5 (L ++ [r.n]).length (strV (L ++ [r.n])) • R)) := Lib.hid (by
      have := h5.two.drop
      rw [strV_snoc] at this
      rwa [List.length_append,List.length_singleton])
     have HL2 : Hid (L ++ [r.n] = ptNames l ++ ptNames (l'.take (x + 1).toNat)) := Lib.hid (by rw [take_nextR hx0 HG.out,ptNames,ptNames,List.map_append,HL.out, ← List.append_assoc]; rfl)
     clear h5 d0
     go_wp2
     exact ⟨⟨_,x + 1,_,rfl,by omega,by omega,by go_num,H5,HL2⟩,by simp only [intOf]; omega⟩
    ·have hlt' : (x < (l'.length : Int)) = False := eq_false hlt
     have HLs : Hid (L = ptNames l ++ ptNames l') := Lib.hid (by
      have h := HL.out
      rwa [List.take_of_length_le (by omega)] at h)
     clear HL
     go_wp2
     go_ret
     exact ⟨va,rfl,by have h := HR.out; rw [HLs.out,List.length_append] at h; exact h⟩
def nmR (nm : ByteArray) (x : En) : Bool := (dotB x.m x.n).toList == nm.toList
set_option maxHeartbeats 16000000 in
set_option maxRecDepth 100000 in
theorem rfind_calls (A : Option Addr) (c : Nat) (l : List En) (nm : ByteArray) (h : S w0 w R) (hC : kEn.C w0 A l.length l) (ho : ∀ x ∈ l,oS x.m ∧ oS x.n) :
  Calls Tryz.prog 70 #[.slice A l.length c,.string nm] w fun e w' => ∃ i : Int,e = .returned (.int .i64 i) ∧ S w0 w' R ∧ Place (nmR nm) l i := by
 have hl : l.length ≤ 9223372036854775807 := hC.2.1
 have HC := Lib.hid (And.intro hC ho)
 have H := Lib.hid h
 clear h hC ho
 go_enter Tryz.func70,Tryz.ntmps70
 go_wp2
 go_loopw [5] (fun v wr => ∃ x : Int,0 ≤ x ∧ x ≤ l.length ∧ v = .int .i64 x ∧ Hid (S w0 wr R) ∧ Hid (∀ m ∈ l.take x.toNat,nmR nm m = false)) (fun v _ => l.length - (intOf v).toNat)
 case atStart => exact ⟨0,Int.le_refl _,by omega,rfl,H,Lib.hid (by simp)⟩
 case round =>
  clear H
  obtain ⟨x,hx0,hx1,rfl,HR,HT⟩ := hrel
  by_cases hlt : x < l.length
  ·obtain ⟨ad,cs,eA,hcl0,hK,hcell0⟩ := Kd.C_get HC.out.1 zEn x hx0 hlt
   cases eA
   have hcell : ∀ (j : Nat) (u : Value),cs[j]? = some u → w0.cell? (ad.add (x.toNat * 18 + j)) = some u := hcell0
   have HG := Lib.hid (getD_mem l zEn x hx0 hlt)
   generalize l.getD x.toNat zEn = r at *
   obtain ⟨ts,rfl, -⟩ := kEn_open (show kEn.K w0 r cs from hK)
   have d0 : wr.cell? (ad.add (x.toNat * 18)) = some (.string r.m) := pw_cell_below HR.out.below (hcell 0 _ rfl)
   have d1 : wr.cell? ⟨(ad.add (x.toNat * 18)).block,(ad.add (x.toNat * 18)).off + 1,none⟩ = some (.string r.n) := by rw [← add_field ad _ 1 (by decide)]; exact pw_cell_below HR.out.below (hcell 1 _ rfl)
   have z1 : r.m.size ≤ 140737488355328 := (HC.out.2 r (List.mem_of_getElem? HG.out)).1
   have z2 : r.n.size ≤ 140737488355328 := (HC.out.2 r (List.mem_of_getElem? HG.out)).2
   have z3 : (r.m ++ (⟨#[46]⟩ : ByteArray)).size = r.m.size + 1 := ByteArray.size_append
   have y5 : (9223372036854775807 < r.m.size + 1) = False := eq_false (by omega)
   have y6 : (9223372036854775807 < r.m.size + 1 + r.n.size) = False := eq_false (by omega)
   have p126 := eq_true hx0
   have q126 : (x < (l.length : Int)) = True := eq_true hlt
   clear hcell hcell0 hcl0 hK
   cases hq : ((r.m ++ (⟨#[46]⟩ : ByteArray) ++ r.n).toList == nm.toList) with
   | true =>
    have HQ : Hid (nmR nm r = true) := Lib.hid hq
    go_wp2
    go_quiet (fail)
    go_wp2
    go_ret
    exact ⟨_,rfl,HR.out.drewN _,.inl ⟨x.toNat,r,by omega,HG.out,HQ.out,HT.out⟩⟩
   | false =>
    have HT2 : Hid (∀ m ∈ l.take (x + 1).toNat,nmR nm m = false) := Lib.hid (by
     rw [take_nextR hx0 HG.out]
     intro m hm
     rcases List.mem_append.1 hm with hm | hm
     ·exact HT.out m hm
     ·rw [List.mem_singleton.1 hm]; exact hq)
    go_wp2
    go_quiet (fail)
    go_wp2
    exact ⟨⟨x + 1,by omega,by omega,by go_num,Lib.hid (HR.out.drewN _),HT2⟩,by simp only [intOf]; omega⟩
  ·have hlt' : (x < (l.length : Int)) = False := eq_false hlt
   have HZ : Hid (∀ m ∈ l,nmR nm m = false) := Lib.hid (by
    have h := HT.out
    rwa [List.take_of_length_le (by omega)] at h)
   go_wp2
   go_ret
   exact ⟨_,rfl,HR.out,.inr ⟨rfl,HZ.out⟩⟩
theorem rempty_calls (c : Con) (A : Option Addr) (p : Nat) (h : S w0 w R) :
  Calls Tryz.prog 71 #[.agg #[.int .i64 c.f0,.int .i64 c.f1,.int .i64 c.f2,.bool c.f3,.bool c.f4,.slice A c.f5.length p]] w fun e w' => e = .returned (.bool (emptyB c)) ∧ S w0 w' R := by
 have H := Lib.hid (h.alloc (.cells #[.int .i64 c.f0,.int .i64 c.f1,.int .i64 c.f2,.bool c.f3,.bool c.f4,.slice A c.f5.length p] 33))
 have d0 := H.out.cell 0 rfl
 have d1 := H.out.cell 1 rfl
 have d2 := H.out.cell 2 rfl
 have d3 := H.out.cell 3 rfl
 have d4 := H.out.cell 4 rfl
 clear h
 obtain ⟨c0,c1,c2,c3,c4,c5⟩ := c
 simp only at d0 d1 d2 d3 d4 H
 unfold emptyB
 dsimp only
 by_cases k0 : c0 = 0
 ·subst k0
  rw [if_pos rfl]
  go_enter Tryz.func71,Tryz.ntmps71
  go_wp2
  go_ret
  exact ⟨rfl,H.out.drop⟩
 have p0 : (c0 == 0) = false := beq_eq_false_iff_ne.2 k0
 rw [if_neg k0]
 by_cases k1 : c0 = 1
 ·subst k1
  rw [if_pos rfl]
  clear k0
  cases c3 with
  | true =>
   go_enter Tryz.func71,Tryz.ntmps71
   go_wp2
   go_ret
   exact ⟨rfl,H.out.drop⟩
  | false =>
   by_cases k2 : c1 ≤ 0
   ·rw [decide_eq_true k2]
    have p2 : decide (c1 ≤ 0) = true := decide_eq_true k2
    cases c4 with
    | true =>
     go_enter Tryz.func71,Tryz.ntmps71
     go_wp2
     go_ret
     exact ⟨rfl,H.out.drop⟩
    | false =>
     go_enter Tryz.func71,Tryz.ntmps71
     go_wp2
     go_ret
     exact ⟨rfl,H.out.drop⟩
   ·rw [decide_eq_false k2]
    have p2 : decide (c1 ≤ 0) = false := decide_eq_false k2
    go_enter Tryz.func71,Tryz.ntmps71
    go_wp2
    go_ret
    exact ⟨rfl,H.out.drop⟩
 ·have p1 : (c0 == 1) = false := beq_eq_false_iff_ne.2 k1
  rw [if_neg k1]
  go_enter Tryz.func71,Tryz.ntmps71
  go_wp2
  go_ret
  exact ⟨rfl,H.out.drop⟩
end Go.Proofs.YtbjddomocggjmaaGreat.Sc
end
section
namespace Go.Proofs.YtbjddomocggjmaaGreat.Sc
open Go.RowKit Go.ChangeShapes Go.WideShapes Go.Proofs.YtbjddomocggjmaaGreat.Sep
open Go.Proofs.YtbjddomocggjmaaGreatW.PrintWords
variable {B : Nat} {w0 w : World} {R : HP}
theorem wpList_load_cells_v {P : Program} {ops : Array Oper} {rest : List Oper} {o : Oper} {a : Act} {w : World} {Q : Exit → Act → World → Prop} (hw : Region.wanted o (yielded ops a.tmps) = true) (ty : TypeId) (x : Operand) (ho : o.op = .load ty x)
  (ad : Addr) (hx : a.eval x = .pointer (some ad)) (cs : List Value) (hc : ∀ j v,cs[j]? = some v → w.cell? (ad.add j) = some v) (d : TypeDesc)
  (hu : P.underlying ty = some d) (hd : (match d with | .struct _ | .array _ _ => true | _ => false) = true) (hi : (P.info? ty).map (·.size) = some cs.length) (h : wpList P ops Q rest (a.put o.dst (.agg cs.toArray)) w) : wpList P ops Q (o :: rest) a w := by
 unfold wpList
 rw [if_pos hw]
 refine .inl ?_
 unfold Oper.wp execOp
 simp only [ho,hx,Instr.loadAt,Instr.sureAddr,Sem.run_bind,Sem.run_pure,Result.andThen_ok,run_loadVar_cells w ad ty cs d hc hu hd hi]
 exact h
def DpR : Nat → Ty → Prop
 | 0,_ => False
 | n + 1,t => True ∧ (∀ p ∈ t.ps,DpR n p.t) ∧ ∀ x ∈ t.el,DpR n x
def knowR (l : List En) (K : List Bool) (nm : List UInt8) : Bool := ((l.zip K).find? fun p => enNm p.1 == nm).any (·.2)
theorem know_at {l : List En} {K : List Bool} (hl : K.length = l.length) {nm : ByteArray} {i : Int} (h : Place (nmR nm) l i) : (i = -1 ∧ knowR l K nm.data.toList = false) ∨ ∃ b,0 ≤ i ∧ i < l.length ∧ K[i.toNat]? = some b ∧ knowR l K nm.data.toList = b := by
 have hb : ∀ x : En,nmR nm x = (enNm x == nm.data.toList) := fun x => by unfold nmR enNm; rw [Lib.toList_data,Lib.toList_data]
 rcases h with ⟨k,x,rfl,hk,hp,hbe⟩ | ⟨rfl,hbe⟩
 ·have hlt := (List.getElem?_eq_some_iff.1 hk).1
  refine .inr ⟨K[k]'(by omega),by omega,by omega,by rw [Int.toNat_natCast]; exact List.getElem?_eq_getElem (by omega), ?_⟩
  unfold knowR
  have : (l.zip K).find? (fun p => enNm p.1 == nm.data.toList) = some (x,K[k]'(by omega)) := by
   have hz : (l.zip K)[k]? = some (x,K[k]'(by omega)) := by
    rw [List.getElem?_zip_eq_some]
    exact ⟨hk,List.getElem?_eq_getElem (by omega)⟩
   rw [List.find?_eq_some_iff_append]
   refine ⟨by rw [← hb]; exact hp,(l.zip K).take k,(l.zip K).drop (k + 1), ?_,fun a ha => ?_⟩
   ·have h1 := List.drop_eq_getElem_cons (List.getElem?_eq_some_iff.1 hz).1
    rw [(List.getElem?_eq_some_iff.1 hz).2] at h1
    rw [← h1,List.take_append_drop]
   ·rw [← hb]
    obtain ⟨j,hj⟩ := List.getElem?_of_mem ha
    rw [List.getElem?_take] at hj
    split at hj
    ·rename_i hjk
     rw [List.getElem?_zip_eq_some] at hj
     rw [hbe a.1 (List.mem_of_getElem? (i := j) (by rw [List.getElem?_take,if_pos hjk]; exact hj.1))]
     rfl
    ·cases hj
  rw [this]
  rfl
 ·refine .inl ⟨rfl, ?_⟩
  unfold knowR
  have : (l.zip K).find? (fun p => enNm p.1 == nm.data.toList) = none := by
   rw [List.find?_eq_none]
   intro p hp
   rw [← hb,hbe p.1 (List.of_mem_zip hp).1]
   simp
  rw [this]
  rfl
theorem know_cell {B : Nat} {Ak : Option Addr} {n ck : Nat} {K : List Bool} (h : St B w0 w (RowV 4 1 (.slice Ak n ck) n (K.map Value.bool) • R)) {i : Nat} {b : Bool} (hi : K[i]? = some b) : ∃ ad,Ak = some ad ∧ w.cell? (ad.add i) = some (.bool b) := by
 obtain ⟨-,A,c,e, -, -,hc⟩ := h.reads
 cases e
 exact hc i (.bool b) (by rw [List.getElem?_map,hi]; rfl)
set_option maxHeartbeats 16000000 in
set_option maxRecDepth 100000 in
theorem rfin_at (A : Option Addr) (c : Nat) (l : List En) (hC : kEn.C w0 A l.length l) (ho : ∀ x ∈ l,oS x.m ∧ oS x.n) (Ak : Option Addr) (ck : Nat) (K : List Bool) (hk : K.length = l.length) (n : Nat) : ∀ (W : World) (Q : HP) (t : Ty) (cs : List Value),S w0 W (RowV 4 1 (.slice Ak l.length ck) l.length (K.map Value.bool) • Q) → kTy.K w0 t cs → DpR n t →
  Calls Tryz.prog 48 #[.slice A l.length c,.slice Ak l.length ck,.agg cs.toArray] W fun e w' => e = .returned (.bool (finT (knowR l K) n t)) ∧ S w0 w' (RowV 4 1 (.slice Ak l.length ck) l.length (K.map Value.bool) • Q) := by
 induction n with
 | zero => intro W Q t cs _ _ h; exact h.elim
 | succ n ih =>
  intro W Q t cs h hK hd
  obtain ⟨A7,c7,A10,c10,A11,c11,A12,c12,A13,c13,A14,c14,rfl,l7,g7,l10,g10,l11,g11,l12,g12,l13,g13,l14,g14⟩ := kTy_open hK
  have HI : Hid (∀ (W : World) (Q : HP) (t : Ty) (cs : List Value),S w0 W (RowV 4 1 (.slice Ak l.length ck) l.length (K.map Value.bool) • Q) → kTy.K w0 t cs → DpR n t →
   Calls Tryz.prog 48 #[.slice A l.length c,.slice Ak l.length ck,.agg cs.toArray] W fun e w' => e = .returned (.bool (finT (knowR l K) n t)) ∧ S w0 w' (RowV 4 1 (.slice Ak l.length ck) l.length (K.map Value.bool) • Q)) := Lib.hid ih
  have HA := Lib.hid (And.intro hC (And.intro ho hk))
  have HG := Lib.hid (And.intro g12 g14)
  have HDp := Lib.hid hd
  have hl0 : l.length ≤ 9223372036854775807 := hC.2.1
  have hl1 : t.ps.length ≤ 9223372036854775807 := g12.2.1
  have hl3 : t.el.length ≤ 9223372036854775807 := g14.2.1
  show Calls Tryz.prog 48 #[.slice A l.length c,.slice Ak l.length ck,.agg #[.int .i64 t.k,.string t.n,.int .i64 t.c.f0,.int .i64 t.c.f1,.int .i64 t.c.f2,.bool t.c.f3,.bool t.c.f4,.slice A7 t.c.f5.length c7,.bool t.e,.string t.fr,.slice A10 t.ns.length c10,.slice A11 t.mo.length c11,.slice A12 t.ps.length c12,.slice A13 t.ad.length c13,.slice A14 t.el.length c14]] W _
  generalize hg : W.heap.size = g
  have H := Lib.hid (alloc_at (n := g) h (.cells #[.int .i64 t.k,.string t.n,.int .i64 t.c.f0,.int .i64 t.c.f1,.int .i64 t.c.f2,.bool t.c.f3,.bool t.c.f4,.slice A7 t.c.f5.length c7,.bool t.e,.string t.fr,.slice A10 t.ns.length c10,.slice A11 t.mo.length c11,.slice A12 t.ps.length c12,.slice A13 t.ad.length c13,.slice A14 t.el.length c14] 38) hg.symm)
  have d0 := H.out.cell 0 (v := .int .i64 t.k) rfl
  clear h hd hK ih hC ho hk l7 g7 l10 g10 l11 g11 l12 g12 l13 g13 l14 g14
  unfold finT
  by_cases hk : t.k = 11
  ·have p11 : (t.k == 11) = true := beq_iff_eq.2 hk
   have d1 := H.out.cell 1 (v := .string t.n) rfl
   rw [if_pos hk]
   clear hk
   go_enter Tryz.func48,Tryz.ntmps48
   go_wp2_with fail
   refine (rfind_calls A c l t.n H.out HA.out.1 HA.out.2.1).mono ?_
   rintro e w1 ⟨i,rfl,h1,hp⟩
   have HP := Lib.hid (know_at HA.out.2.2 hp)
   have H1 := Lib.hid h1
   clear h1 H hp d0 d1
   rcases HP.out with ⟨hi,hn⟩ | ⟨b,hi0,hi1,hib,hn⟩
   ·subst hi
    have HN := Lib.hid hn
    clear hn
    go_wp2
    go_ret
    exact ⟨by rw [HN.out]; rfl,H1.out.drop⟩
   ·obtain ⟨ak,eK,hcc⟩ := know_cell H1.out.two hib
    cases eK
    have t1 : (0 ≤ i) = True := eq_true hi0
    have t2 : (i < (l.length : Int)) = True := eq_true hi1
    have HN := Lib.hid hn
    clear hn hib
    go_wp2
    go_ret
    exact ⟨by rw [HN.out]; rfl,H1.out.drop⟩
  rw [if_neg hk]
  have p11 : (t.k == 11) = false := beq_eq_false_iff_ne.2 hk
  by_cases hk9 : t.k = 9
  ·have p9 : (t.k == 9) = true := beq_iff_eq.2 hk9
   rw [if_pos hk9]
   have d2 := H.out.cell 2 (v := .int .i64 t.c.f0) rfl
   have d3 := H.out.cell 3 (v := .int .i64 t.c.f1) rfl
   have d4 := H.out.cell 4 (v := .int .i64 t.c.f2) rfl
   have d5 := H.out.cell 5 (v := .bool t.c.f3) rfl
   have d6 := H.out.cell 6 (v := .bool t.c.f4) rfl
   have d7 := H.out.cell 7 (v := .slice A7 t.c.f5.length c7) rfl
   clear hk hk9
   go_enter Tryz.func48,Tryz.ntmps48
   go_wp2_with fail
   refine (rempty_calls t.c A7 c7 H.out).mono ?_
   rintro e w1 ⟨rfl,h1⟩
   have H1 := Lib.hid h1
   clear h1 H d0 d2 d3 d4 d5 d6 d7
   cases hq : emptyB t.c with
   | true =>
    have HQ := Lib.hid hq
    clear hq
    go_wp2
    go_ret
    exact ⟨by rw [HQ.out]; rfl,H1.out.drop⟩
   | false =>
    have HQ := Lib.hid hq
    clear hq
    have d14 := H1.out.cell 14 (v := .slice A14 t.el.length c14) rfl
    by_cases hl : t.el.length = 1
    ·have p14 : ((t.el.length : Int) == 1) = true := beq_iff_eq.2 (by omega)
     have l1 : (0 : Int) < t.el.length := by omega
     obtain ⟨ad,cs,eA,hcl0,hKe,hcell0⟩ := Kd.C_get HG.out.2 zTy 0 (Int.le_refl _) l1
     cases eA
     have hcell : ∀ (j : Nat) (u : Value),cs[j]? = some u → w0.cell? (ad.add (0 * 15 + j)) = some u := hcell0
     have hGm := getD_mem t.el zTy 0 (Int.le_refl _) l1
     have hall : t.el.all (finT (knowR l K) n) = finT (knowR l K) n (t.el.getD (0 : Int).toNat zTy) := by
      match t.el,hl with
      | [a],_ => simp
     generalize t.el.getD (0 : Int).toNat zTy = r at *
     have HD := Lib.hid (HDp.out.2.2 r (List.mem_of_getElem? hGm))
     have HK := Lib.hid (And.intro (show kTy.K w0 r cs from hKe) (hcl0 : cs.length = 15))
     have HZ : Hid ((decide (t.el.length = 1) && t.el.all (finT (knowR l K) n)) = finT (knowR l K) n r) := Lib.hid (by rw [decide_eq_true hl,hall,Bool.true_and])
     have HFT : Hid (∀ (j : Nat) (v : Value),cs[j]? = some v → w1.cell? (ad.add j) = some v) := Lib.hid fun j v hv => by
      have := pw_cell_below H1.out.below (hcell j v hv)
      rwa [Nat.zero_mul,Nat.zero_add] at this
     have q126 : ((0 : Int) < (t.el.length : Int)) = True := eq_true l1
     have hl' : (t.el.length : Int) = 1 := by omega
     rw [hl] at d14
     clear hcell hcell0 hcl0 hKe hGm hall
     go_wp2_with (refine held_load 38 _ rfl ?_)
     refine ⟨?_⟩
     refine wpList_load_cells_v (by rfl) 38 _ rfl ad (by simp [add_zero1,go_sem]) cs HFT.out _ Tryz.underlying38 rfl (by rw [HK.out.2]; kernel_rfl) ?_
     go_wp2_with fail
     refine (HI.out _ _ r cs H1.out.two HK.out.1 HD.out).mono ?_
     rintro e w3 ⟨rfl,h3⟩
     have H3 := Lib.hid h3.two
     clear h3 H1 d14
     go_wp2
     go_ret
     exact ⟨by rw [HQ.out,HZ.out]; rfl,H3.out.drop⟩
    ·have p14 : ((t.el.length : Int) == 1) = false := beq_eq_false_iff_ne.2 (by omega)
     have HZ : Hid ((decide (t.el.length = 1) && t.el.all (finT (knowR l K) n)) = false) := Lib.hid (by rw [decide_eq_false hl,Bool.false_and])
     clear hl
     go_wp2
     go_ret
     exact ⟨by rw [HQ.out,HZ.out]; rfl,H1.out.drop⟩
  rw [if_neg hk9]
  have p9 : (t.k == 9) = false := beq_eq_false_iff_ne.2 hk9
  by_cases hk8 : t.k = 8
  ·have p8 : (t.k == 8) = true := beq_iff_eq.2 hk8
   rw [if_pos hk8]
   clear hk hk9 hk8
   go_enter Tryz.func48,Tryz.ntmps48
   go_wp2
   clear d0 p11 p9 p8
   go_loopw [8] (fun v wr => ∃ x : Int,0 ≤ x ∧ x ≤ t.ps.length ∧ v = .int .i64 x ∧ Hid (S w0 wr (Blk g (.cells #[.int .i64 t.k,.string t.n,.int .i64 t.c.f0,.int .i64 t.c.f1,.int .i64 t.c.f2,.bool t.c.f3,.bool t.c.f4,.slice A7 t.c.f5.length c7,.bool t.e,.string t.fr,.slice A10 t.ns.length c10,.slice A11 t.mo.length c11,.slice A12 t.ps.length c12,.slice A13 t.ad.length c13,.slice A14 t.el.length c14] 38) • (RowV 4 1 (.slice Ak l.length ck) l.length (K.map Value.bool) • Q))) ∧ Hid (∀ p ∈ t.ps.take x.toNat,(!p.o && decide (p.d.length = 0) && !finT (knowR l K) n p.t) = false)) (fun v _ => t.ps.length - (intOf v).toNat)
   case atStart => exact ⟨0,Int.le_refl _,by omega,rfl,H,Lib.hid (by simp)⟩
   case round =>
    clear H
    obtain ⟨x,hx0,hx1,rfl,HR,HT⟩ := hrel
    have b12 := HR.out.cell 12 (v := .slice A12 t.ps.length c12) rfl
    by_cases hlt : x < t.ps.length
    ·obtain ⟨ad,cs',eA,hcl0,hKx,hcell0⟩ := Kd.C_get HG.out.1 zPt x hx0 hlt
     cases eA
     have hcell : ∀ (j : Nat) (u : Value),cs'[j]? = some u → w0.cell? (ad.add (x.toNat * 18 + j)) = some u := hcell0
     have HGx := Lib.hid (getD_mem t.ps zPt x hx0 hlt)
     generalize t.ps.getD x.toNat zPt = r at *
     obtain ⟨ts,A17,c17,hcs,hTy,l17,g17⟩ := kPt_open (show kPt.K w0 r cs' from hKx)
     have htl : ts.length = 15 := kTy.K_len hTy
     have HK := Lib.hid (And.intro hTy htl)
     have HF : Hid (∀ W,Below w0.heap.size w0 W → True ∧ W.cell? ⟨(ad.add (x.toNat * 18)).block,(ad.add (x.toNat * 18)).off + 16,none⟩ = some (.bool r.o) ∧ W.cell? ⟨(ad.add (x.toNat * 18)).block,(ad.add (x.toNat * 18)).off + 17,none⟩ = some (.slice A17 r.d.length c17) ∧ ∀ (j : Nat) (v : Value),ts[j]? = some v → W.cell? ((⟨(ad.add (x.toNat * 18)).block,(ad.add (x.toNat * 18)).off + 1,none⟩ : Addr).add j) = some v) := Lib.hid fun W hW => by
      refine ⟨trivial, ?_, ?_,fun j v hv => ?_⟩
      ·rw [← add_field ad _ 16 (by decide)]; exact pw_cell_below hW (hcell 16 _ (by rw [hcs]; simp [htl]))
      ·rw [← add_field ad _ 17 (by decide)]; exact pw_cell_below hW (hcell 17 _ (by rw [hcs]; simp [htl]))
      ·have := pw_cell_below hW (hcell (1 + j) v (by rw [hcs,Nat.add_comm]; show (ts ++ _)[j]? = _; rw [List.getElem?_append_left (by have := (List.getElem?_eq_some_iff.1 hv).1; omega)]; exact hv))
       rw [add_field ad _ _ (by omega), ← Nat.add_assoc] at this
       rw [WideShapes.add_plain]; exact this
     obtain ⟨-,f16,f17,fT⟩ := HF.out _ HR.out.below
     have HFT := Lib.hid fT
     have hl17 : r.d.length ≤ 9223372036854775807 := g17.2.1
     have hrm := List.mem_of_getElem? HGx.out
     have HD := Lib.hid (And.intro (HDp.out.2.1 r hrm) hrm)
     have p126 := eq_true hx0
     have q126 : (x < (t.ps.length : Int)) = True := eq_true hlt
     clear hcell hcell0 hcl0 hKx hcs hTy htl l17 g17 fT hrm
     cases ho : r.o with
     | true =>
      rw [ho] at f16
      have HT2 := Lib.hid (show ∀ p ∈ t.ps.take (x + 1).toNat,(!p.o && decide (p.d.length = 0) && !finT (knowR l K) n p.t) = false by
       rw [take_nextR hx0 HGx.out]
       intro p hp
       rcases List.mem_append.1 hp with hp | hp
       ·exact HT.out p hp
       ·rw [List.mem_singleton.1 hp]
        rw [ho]; rfl)
      clear ho
      go_wp2
      exact ⟨⟨x + 1,by omega,by omega,by go_num,HR,HT2⟩,by simp only [intOf]; omega⟩
     | false =>
      rw [ho] at f16
      by_cases hd : r.d.length = 0
      ·have y7 : ((r.d.length : Int) == 0) = true := beq_iff_eq.2 (by omega)
       rw [hd] at f17
       go_wp2_with (refine held_load 38 _ rfl ?_)
       refine ⟨?_⟩
       refine wpList_load_cells_v (by rfl) 38 _ rfl _ rfl ts HFT.out _ Tryz.underlying38 rfl (by rw [HK.out.2]; kernel_rfl) ?_
       go_wp2_with fail
       refine (HI.out _ _ r.t ts HR.out.two HK.out.1 HD.out.1).mono ?_
       rintro e w3 ⟨rfl,h3⟩
       have H3 := Lib.hid h3.two
       clear h3
       cases hq : finT (knowR l K) n r.t with
       | true =>
        have HT2 := Lib.hid (show ∀ p ∈ t.ps.take (x + 1).toNat,(!p.o && decide (p.d.length = 0) && !finT (knowR l K) n p.t) = false by
         rw [take_nextR hx0 HGx.out]
         intro p hp
         rcases List.mem_append.1 hp with hp | hp
         ·exact HT.out p hp
         ·rw [List.mem_singleton.1 hp]
          rw [hq]; simp)
        clear hq HR b12 f16 f17
        go_wp2
        exact ⟨⟨x + 1,by omega,by omega,by go_num,H3,HT2⟩,by simp only [intOf]; omega⟩
       | false =>
        have HZ : Hid ((t.ps.any fun p => !p.o && decide (p.d.length = 0) && !finT (knowR l K) n p.t) = true) := Lib.hid (List.any_eq_true.2 ⟨r,HD.out.2,by rw [ho,hq,hd]; rfl⟩)
        clear hq ho HR b12 f16 f17
        go_wp2
        go_ret
        exact ⟨by rw [HZ.out]; rfl,H3.out.drop⟩
      ·have y7 : ((r.d.length : Int) == 0) = false := beq_eq_false_iff_ne.2 (by omega)
       have HT2 := Lib.hid (show ∀ p ∈ t.ps.take (x + 1).toNat,(!p.o && decide (p.d.length = 0) && !finT (knowR l K) n p.t) = false by
        rw [take_nextR hx0 HGx.out]
        intro p hp
        rcases List.mem_append.1 hp with hp | hp
        ·exact HT.out p hp
        ·rw [List.mem_singleton.1 hp]
         rw [decide_eq_false hd]; simp)
       clear ho hd
       go_wp2
       exact ⟨⟨x + 1,by omega,by omega,by go_num,HR,HT2⟩,by simp only [intOf]; omega⟩
    ·have hlt' : (x < (t.ps.length : Int)) = False := eq_false hlt
     have HZ := Lib.hid (show ∀ p ∈ t.ps,(!p.o && decide (p.d.length = 0) && !finT (knowR l K) n p.t) = false by
      have h := HT.out
      rwa [List.take_of_length_le (by omega)] at h)
     have HZ2 : Hid ((t.ps.any fun p => !p.o && decide (p.d.length = 0) && !finT (knowR l K) n p.t) = false) := Lib.hid (List.any_eq_false.2 fun p hp => by rw [HZ.out p hp]; simp)
     go_wp2
     go_ret
     have h := HZ2.out
     simp only [List.length_eq_zero_iff] at h
     exact ⟨by rw [h]; rfl,HR.out.drop⟩
  rw [if_neg hk8]
  have p8 : (t.k == 8) = false := beq_eq_false_iff_ne.2 hk8
  by_cases hk10 : t.k = 10
  ·have p10 : (t.k == 10) = true := beq_iff_eq.2 hk10
   rw [if_pos hk10]
   clear hk hk9 hk8 hk10
   go_enter Tryz.func48,Tryz.ntmps48
   go_wp2
   clear d0 p11 p9 p8 p10
   go_loopw [9] (fun v wr => ∃ x : Int,0 ≤ x ∧ x ≤ t.ps.length ∧ v = .int .i64 x ∧ Hid (S w0 wr (Blk g (.cells #[.int .i64 t.k,.string t.n,.int .i64 t.c.f0,.int .i64 t.c.f1,.int .i64 t.c.f2,.bool t.c.f3,.bool t.c.f4,.slice A7 t.c.f5.length c7,.bool t.e,.string t.fr,.slice A10 t.ns.length c10,.slice A11 t.mo.length c11,.slice A12 t.ps.length c12,.slice A13 t.ad.length c13,.slice A14 t.el.length c14] 38) • (RowV 4 1 (.slice Ak l.length ck) l.length (K.map Value.bool) • Q))) ∧ Hid (∀ p ∈ t.ps.take x.toNat,(finT (knowR l K) n p.t) = false)) (fun v _ => t.ps.length - (intOf v).toNat)
   case atStart => exact ⟨0,Int.le_refl _,by omega,rfl,H,Lib.hid (by simp)⟩
   case round =>
    clear H
    obtain ⟨x,hx0,hx1,rfl,HR,HT⟩ := hrel
    have b12 := HR.out.cell 12 (v := .slice A12 t.ps.length c12) rfl
    by_cases hlt : x < t.ps.length
    ·obtain ⟨ad,cs',eA,hcl0,hKx,hcell0⟩ := Kd.C_get HG.out.1 zPt x hx0 hlt
     cases eA
     have hcell : ∀ (j : Nat) (u : Value),cs'[j]? = some u → w0.cell? (ad.add (x.toNat * 18 + j)) = some u := hcell0
     have HGx := Lib.hid (getD_mem t.ps zPt x hx0 hlt)
     generalize t.ps.getD x.toNat zPt = r at *
     obtain ⟨ts,A17,c17,hcs,hTy,l17,g17⟩ := kPt_open (show kPt.K w0 r cs' from hKx)
     have htl : ts.length = 15 := kTy.K_len hTy
     have HK := Lib.hid (And.intro hTy htl)
     have HF : Hid (∀ W,Below w0.heap.size w0 W → True ∧ W.cell? ⟨(ad.add (x.toNat * 18)).block,(ad.add (x.toNat * 18)).off + 16,none⟩ = some (.bool r.o) ∧ W.cell? ⟨(ad.add (x.toNat * 18)).block,(ad.add (x.toNat * 18)).off + 17,none⟩ = some (.slice A17 r.d.length c17) ∧ ∀ (j : Nat) (v : Value),ts[j]? = some v → W.cell? ((⟨(ad.add (x.toNat * 18)).block,(ad.add (x.toNat * 18)).off + 1,none⟩ : Addr).add j) = some v) := Lib.hid fun W hW => by
      refine ⟨trivial, ?_, ?_,fun j v hv => ?_⟩
      ·rw [← add_field ad _ 16 (by decide)]; exact pw_cell_below hW (hcell 16 _ (by rw [hcs]; simp [htl]))
      ·rw [← add_field ad _ 17 (by decide)]; exact pw_cell_below hW (hcell 17 _ (by rw [hcs]; simp [htl]))
      ·have := pw_cell_below hW (hcell (1 + j) v (by rw [hcs,Nat.add_comm]; show (ts ++ _)[j]? = _; rw [List.getElem?_append_left (by have := (List.getElem?_eq_some_iff.1 hv).1; omega)]; exact hv))
       rw [add_field ad _ _ (by omega), ← Nat.add_assoc] at this
       rw [WideShapes.add_plain]; exact this
     obtain ⟨-,f16,f17,fT⟩ := HF.out _ HR.out.below
     have HFT := Lib.hid fT
     have hl17 : r.d.length ≤ 9223372036854775807 := g17.2.1
     have hrm := List.mem_of_getElem? HGx.out
     have HD := Lib.hid (And.intro (HDp.out.2.1 r hrm) hrm)
     have p126 := eq_true hx0
     have q126 : (x < (t.ps.length : Int)) = True := eq_true hlt
     clear hcell hcell0 hcl0 hKx hcs hTy htl l17 g17 fT hrm
     go_wp2_with (refine held_load 38 _ rfl ?_)
     refine ⟨?_⟩
     refine wpList_load_cells_v (by rfl) 38 _ rfl _ rfl ts HFT.out _ Tryz.underlying38 rfl (by rw [HK.out.2]; kernel_rfl) ?_
     go_wp2_with fail
     refine (HI.out _ _ r.t ts HR.out.two HK.out.1 HD.out.1).mono ?_
     rintro e w3 ⟨rfl,h3⟩
     have H3 := Lib.hid h3.two
     clear h3
     cases hq : finT (knowR l K) n r.t with
     | true =>
      have HZ : Hid ((t.ps.any fun p => finT (knowR l K) n p.t) = true) := Lib.hid (List.any_eq_true.2 ⟨r,HD.out.2,hq⟩)
      clear hq HR b12 f16 f17
      go_wp2
      go_ret
      exact ⟨by rw [HZ.out]; rfl,H3.out.drop⟩
     | false =>
      have HT2 := Lib.hid (show ∀ p ∈ t.ps.take (x + 1).toNat,(finT (knowR l K) n p.t) = false by
       rw [take_nextR hx0 HGx.out]
       intro p hp
       rcases List.mem_append.1 hp with hp | hp
       ·exact HT.out p hp
       ·rw [List.mem_singleton.1 hp]
        exact hq)
      clear hq HR b12 f16 f17
      go_wp2
      exact ⟨⟨x + 1,by omega,by omega,by go_num,H3,HT2⟩,by simp only [intOf]; omega⟩
    ·have hlt' : (x < (t.ps.length : Int)) = False := eq_false hlt
     have HZ := Lib.hid (show ∀ p ∈ t.ps,(finT (knowR l K) n p.t) = false by
      have h := HT.out
      rwa [List.take_of_length_le (by omega)] at h)
     have HZ2 : Hid ((t.ps.any fun p => finT (knowR l K) n p.t) = false) := Lib.hid (List.any_eq_false.2 fun p hp => by rw [HZ.out p hp]; simp)
     go_wp2
     go_ret
     exact ⟨by rw [HZ2.out]; rfl,HR.out.drop⟩
  rw [if_neg hk10]
  have p10 : (t.k == 10) = false := beq_eq_false_iff_ne.2 hk10
  clear hk hk9 hk8 hk10
  go_enter Tryz.func48,Tryz.ntmps48
  go_wp2
  go_ret
  exact ⟨rfl,H.out.drop⟩
end Go.Proofs.YtbjddomocggjmaaGreat.Sc
end
