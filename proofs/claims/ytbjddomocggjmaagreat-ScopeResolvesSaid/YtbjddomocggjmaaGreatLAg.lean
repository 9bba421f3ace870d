/- full of the reference of layer 10: walked. -/
import Derived.Deep.QuietTactic
import Derived.Deep.Cut
import Derived.Test.YtbjddomocggjmaaGreatLP
import Derived.Test.YtbjddomocggjmaaGreatLQ
import Derived.Test.YtbjddomocggjmaaGreatLS
import Derived.Test.YtbjddomocggjmaaGreatLAa
section
namespace Go.Proofs.YtbjddomocggjmaaGreat.Sc
open Go.RowKit Go.ChangeShapes Go.WideShapes Go.Proofs.YtbjddomocggjmaaGreat.Sep
open Go.Proofs.YtbjddomocggjmaaGreatW.PrintWords
variable {B : Nat} {w0 w : World} {R : HP}
set_option maxHeartbeats 16000000 in
set_option maxRecDepth 100000 in
theorem rtwice_calls (A : Option Addr) (c : Nat) (l : List ByteArray) (h : S w0 w R) (hC : Kd.string.C w0 A l.length l) :
  Calls Tryz.prog 19 #[.slice A l.length c] w fun e w' => e = .returned (.bool (!onceB l)) ∧ S w0 w' R := by
 have hl : l.length ≤ 9223372036854775807 := hC.2.1
 have HC := Lib.hid hC
 have H := Lib.hid h
 clear h hC
 go_enter Tryz.func19,Tryz.ntmps19
 go_wp2
 go_loopw [3] (fun v wr => ∃ x : Int,0 ≤ x ∧ x ≤ l.length ∧ v = .int .i64 x ∧ Hid (S w0 wr R) ∧ Hid ((kys (l.take x.toNat)).Nodup)) (fun v _ => l.length - (intOf v).toNat)
 case atStart => exact ⟨0,Int.le_refl _,by omega,rfl,H,Lib.hid (by simp [kys])⟩
 case round =>
  clear H
  obtain ⟨x,hx0,hx1,rfl,HR,HT⟩ := hrel
  by_cases hlt : x < l.length
  ·obtain ⟨ad,cs,eA,hcl0,hK,hcell0⟩ := Kd.C_get HC.out (⟨#[]⟩ : ByteArray) x hx0 hlt
   cases eA
   have HG := Lib.hid (getD_mem l (⟨#[]⟩ : ByteArray) x hx0 hlt)
   obtain rfl : cs = [.string (l.getD x.toNat (⟨#[]⟩ : ByteArray))] := hK
   generalize l.getD x.toNat (⟨#[]⟩ : ByteArray) = r at *
   have hcell : ∀ (j : Nat) (u : Value),([.string r] : List Value)[j]? = some u → w0.cell? (ad.add (x.toNat * 1 + j)) = some u := hcell0
   have HX : Hid (∀ W,Below w0.heap.size w0 W → W.cell? (ad.add x.toNat) = some (.string r)) := Lib.hid fun W hW => by have h := pw_cell_below hW (hcell 0 _ rfl); rwa [Nat.mul_one,Nat.add_zero] at h
   have HK := Lib.hid (kys_take l x r hx0 HG.out)
   have p126 := eq_true hx0
   have q126 : (x < (l.length : Int)) = True := eq_true hlt
   clear hcell hcell0 hcl0
   go_wp2
   go_loopw [4] (fun v wr => ∃ k : Int,0 ≤ k ∧ k ≤ x ∧ v = .int .i64 k ∧ Hid (S w0 wr R) ∧ Hid (r.data.toList ∉ kys (l.take k.toNat))) (fun v _ => x.toNat - (intOf v).toNat)
   case atStart => exact ⟨0,Int.le_refl _,hx0,rfl,HR,Lib.hid (by simp [kys])⟩
   case round =>
    clear HR
    obtain ⟨k,hk0,hk1,rfl,HS,HN⟩ := hrel
    by_cases hlk : k < x
    ·obtain ⟨ad',cs',eA',hcl0',hK',hcell0'⟩ := Kd.C_get HC.out (⟨#[]⟩ : ByteArray) k hk0 (by omega)
     cases eA'
     have HGk := Lib.hid (getD_mem l (⟨#[]⟩ : ByteArray) k hk0 (by omega))
     obtain rfl : cs' = [.string (l.getD k.toNat (⟨#[]⟩ : ByteArray))] := hK'
     generalize l.getD k.toNat (⟨#[]⟩ : ByteArray) = q at *
     have hcell' : ∀ (j : Nat) (u : Value),([.string q] : List Value)[j]? = some u → w0.cell? (ad.add (k.toNat * 1 + j)) = some u := hcell0'
     have d1 : wr.cell? (ad.add k.toNat) = some (.string q) := by have h := pw_cell_below HS.out.below (hcell' 0 _ rfl); rwa [Nat.mul_one,Nat.add_zero] at h
     have d0 := HX.out _ HS.out.below
     have HKk := Lib.hid (kys_take l k q hk0 HGk.out)
     have p127 := eq_true hk0
     have q127 : (k < x) = True := eq_true hlk
     have q128 : (k < (l.length : Int)) = True := eq_true (by omega)
     clear hcell' hcell0' hcl0'
     by_cases he : r.data.toList = q.data.toList
     ·have y0 : (r.toList == q.toList) = true := by rw [Lib.toList_data,Lib.toList_data]; exact beq_iff_eq.2 he
      have HZ : Hid (onceB l = false) := Lib.hid (by
       unfold onceB
       rw [decide_eq_false_iff_not]
       intro hnd
       have h2 : (kys (l.take (x + 1).toNat)).Nodup := by
        have e : kys (l.take (x + 1).toNat) = (kys l).take (x + 1).toNat := by simp [kys,List.map_take]
        rw [e]
        exact hnd.sublist (List.take_sublist _ _)
       rw [HK.out,List.nodup_append] at h2
       refine h2.2.2 r.data.toList ?_ _ (by simp) rfl
       rw [he]
       refine List.mem_map.2 ⟨q, ?_,rfl⟩
       exact List.mem_of_getElem? (i := k.toNat) (by rw [List.getElem?_take,if_pos (by omega),HGk.out]))
      clear he
      go_wp2
      go_quiet (fail)
      go_wp2
      go_ret
      exact ⟨by rw [HZ.out]; rfl,HS.out.drewN _⟩
     ·have y0 : (r.toList == q.toList) = false := by rw [Lib.toList_data,Lib.toList_data]; exact beq_eq_false_iff_ne.2 he
      have HN2 : Hid (r.data.toList ∉ kys (l.take (k + 1).toNat)) := Lib.hid (by
       rw [HKk.out]
       intro hm
       rcases List.mem_append.1 hm with hm | hm
       ·exact HN.out hm
       ·exact he (List.mem_singleton.1 hm))
      clear he
      go_wp2
      go_quiet (fail)
      go_wp2
      exact ⟨⟨k + 1,by omega,by omega,by go_num,Lib.hid (HS.out.drewN _),HN2⟩,by simp only [intOf]; omega⟩
    ·have hlk' : (k < x) = False := eq_false hlk
     have HZ : Hid ((kys (l.take (x + 1).toNat)).Nodup) := Lib.hid (by
      rw [HK.out,List.nodup_append]
      refine ⟨HT.out,by simp,fun a ha b hb => ?_⟩
      obtain rfl := List.mem_singleton.1 hb
      rintro rfl
      have hn := HN.out
      rw [show k.toNat = x.toNat by omega] at hn
      exact hn ha)
     go_wp2
     exact ⟨⟨x + 1,by omega,by omega,by go_num,HS,HZ⟩,by simp only [intOf]; omega⟩
  ·have hlt' : (x < (l.length : Int)) = False := eq_false hlt
   have HZ : Hid (onceB l = true) := Lib.hid (by
    unfold onceB
    rw [decide_eq_true_iff]
    have h := HT.out
    rwa [List.take_of_length_le (by omega)] at h)
   go_wp2
   go_ret
   exact ⟨by rw [HZ.out]; rfl,HR.out⟩
def mdNm (name : ByteArray) (m : Md) : Bool := m.n.toList == name.toList
theorem take_nextR {α : Type} {l : List α} {x : Int} {r : α} (h0 : 0 ≤ x) (h : l[x.toNat]? = some r) : l.take (x + 1).toNat = l.take x.toNat ++ [r] := by
 rw [show (x + 1).toNat = x.toNat + 1 by omega,List.take_add_one,h]
 rfl
set_option maxHeartbeats 16000000 in
set_option maxRecDepth 100000 in
theorem rmodule_calls (A : Option Addr) (c : Nat) (l : List Md) (name : ByteArray) (h : S w0 w R) (hC : kMd.C w0 A l.length l) :
  Calls Tryz.prog 43 #[.slice A l.length c,.string name] w fun e w' => ∃ i : Int,e = .returned (.int .i64 i) ∧ S w0 w' R ∧ Place (mdNm name) l i := by
 have hl : l.length ≤ 9223372036854775807 := hC.2.1
 have HC := Lib.hid hC
 have H := Lib.hid h
 clear h hC
 go_enter Tryz.func43,Tryz.ntmps43
 go_wp2
 go_loopw [5] (fun v wr => ∃ x : Int,0 ≤ x ∧ x ≤ l.length ∧ v = .int .i64 x ∧ Hid (S w0 wr R) ∧ Hid (∀ m ∈ l.take x.toNat,mdNm name m = false)) (fun v _ => l.length - (intOf v).toNat)
 case atStart => exact ⟨0,Int.le_refl _,by omega,rfl,H,Lib.hid (by simp)⟩
 case round =>
  clear H
  obtain ⟨x,hx0,hx1,rfl,HR,HT⟩ := hrel
  by_cases hlt : x < l.length
  ·obtain ⟨ad,cs,eA,hcl0,hK,hcell0⟩ := Kd.C_get HC.out zMd x hx0 hlt
   cases eA
   have hcell : ∀ (j : Nat) (u : Value),cs[j]? = some u → w0.cell? (ad.add (x.toNat * 4 + j)) = some u := hcell0
   have HG := Lib.hid (getD_mem l zMd x hx0 hlt)
   generalize l.getD x.toNat zMd = r at *
   obtain ⟨A2,c2,A3,c3,rfl, -⟩ := kMd_open (show kMd.K w0 r cs from hK)
   have d0 : wr.cell? (ad.add (x.toNat * 4)) = some (.string r.n) := pw_cell_below HR.out.below (hcell 0 _ rfl)
   have p126 := eq_true hx0
   have q126 : (x < (l.length : Int)) = True := eq_true hlt
   clear hcell hcell0 hcl0 hK
   cases hq : (r.n.toList == name.toList) with
   | true =>
    have HQ := Lib.hid hq
    go_wp2
    go_ret
    exact ⟨_,rfl,HR.out,.inl ⟨x.toNat,r,by omega,HG.out,HQ.out,HT.out⟩⟩
   | false =>
    have HT2 : Hid (∀ m ∈ l.take (x + 1).toNat,mdNm name m = false) := Lib.hid (by
     rw [take_nextR hx0 HG.out]
     intro m hm
     rcases List.mem_append.1 hm with hm | hm
     ·exact HT.out m hm
     ·rw [List.mem_singleton.1 hm]; exact hq)
    go_wp2
    exact ⟨⟨x + 1,by omega,by omega,by go_num,HR,HT2⟩,by simp only [intOf]; omega⟩
  ·have hlt' : (x < (l.length : Int)) = False := eq_false hlt
   have HZ : Hid (∀ m ∈ l,mdNm name m = false) := Lib.hid (by
    have h := HT.out
    rwa [List.take_of_length_le (by omega)] at h)
   go_wp2
   go_ret
   exact ⟨_,rfl,HR.out,.inr ⟨rfl,HZ.out⟩⟩
def ownR (m : Md) (s : ByteArray) : Bool := (kys (m.df.map fun d => d.n)).contains s.data.toList
set_option maxHeartbeats 16000000 in
set_option maxRecDepth 100000 in
theorem rown_calls (m : Md) (cs : List Value) (s : ByteArray) (h : S w0 w R) (hK : kMd.K w0 m cs) :
  Calls Tryz.prog 44 #[.agg cs.toArray,.string s] w fun e w' => e = .returned (.bool (ownR m s)) ∧ S w0 w' R := by
 obtain ⟨A2,c2,A3,c3,rfl, -, -, -,g3⟩ := kMd_open hK
 have hl : m.df.length ≤ 9223372036854775807 := g3.2.1
 have HC := Lib.hid g3
 generalize hg : w.heap.size = g
 have H := Lib.hid (alloc_at (n := g) h (.cells #[.string m.n,.bool m.au,.slice A2 m.im.length c2,.slice A3 m.df.length c3] 44) hg.symm)
 clear h hK g3
 go_enter Tryz.func44,Tryz.ntmps44
 go_wp2
 go_loopw [5] (fun v wr => ∃ x : Int,0 ≤ x ∧ x ≤ m.df.length ∧ v = .int .i64 x ∧ Hid (S w0 wr (Blk g (.cells #[.string m.n,.bool m.au,.slice A2 m.im.length c2,.slice A3 m.df.length c3] 44) • R)) ∧ Hid (s.data.toList ∉ (m.df.take x.toNat).map fun d => d.n.data.toList)) (fun v _ => m.df.length - (intOf v).toNat)
 case atStart => exact ⟨0,Int.le_refl _,by omega,rfl,H,Lib.hid (by simp)⟩
 case round =>
  clear H
  obtain ⟨x,hx0,hx1,rfl,HR,HT⟩ := hrel
  have b3 := HR.out.cell 3 rfl
  by_cases hlt : x < m.df.length
  ·obtain ⟨ad,cs,eA,hcl0,hK,hcell0⟩ := Kd.C_get HC.out zDf x hx0 hlt
   cases eA
   have hcell : ∀ (j : Nat) (u : Value),cs[j]? = some u → w0.cell? (ad.add (x.toNat * 16 + j)) = some u := hcell0
   have HG := Lib.hid (getD_mem m.df zDf x hx0 hlt)
   generalize m.df.getD x.toNat zDf = r at *
   obtain ⟨ts,rfl, -⟩ := kDf_open (show kDf.K w0 r cs from hK)
   have d0 : wr.cell? (ad.add (x.toNat * 16)) = some (.string r.n) := pw_cell_below HR.out.below (hcell 0 _ rfl)
   have p126 := eq_true hx0
   have q126 : (x < (m.df.length : Int)) = True := eq_true hlt
   clear hcell hcell0 hcl0 hK
   by_cases he : r.n.data.toList = s.data.toList
   ·have y0 : (r.n.toList == s.toList) = true := by rw [Lib.toList_data,Lib.toList_data]; exact beq_iff_eq.2 he
    have HZ : Hid (ownR m s = true) := Lib.hid (by
     unfold ownR kys
     rw [List.contains_iff_mem,List.map_map]
     exact List.mem_map.2 ⟨r,List.mem_of_getElem? HG.out,he⟩)
    clear he
    go_wp2
    go_ret
    exact ⟨by rw [HZ.out]; rfl,HR.out.drop⟩
   ·have y0 : (r.n.toList == s.toList) = false := by rw [Lib.toList_data,Lib.toList_data]; exact beq_eq_false_iff_ne.2 he
    have HT2 : Hid (s.data.toList ∉ (m.df.take (x + 1).toNat).map fun d => d.n.data.toList) := Lib.hid (by
     rw [take_nextR hx0 HG.out,List.map_append]
     intro hm
     rcases List.mem_append.1 hm with hm | hm
     ·exact HT.out hm
     ·exact he (List.mem_singleton.1 hm).symm)
    clear he
    go_wp2
    exact ⟨⟨x + 1,by omega,by omega,by go_num,HR,HT2⟩,by simp only [intOf]; omega⟩
  ·have hlt' : (x < (m.df.length : Int)) = False := eq_false hlt
   have HZ : Hid (ownR m s = false) := Lib.hid (by
    unfold ownR kys
    rw [Bool.eq_false_iff,ne_eq,List.contains_iff_mem,List.map_map]
    have h := HT.out
    rwa [List.take_of_length_le (by omega)] at h)
   go_wp2
   go_ret
   exact ⟨by rw [HZ.out]; rfl,HR.out.drop⟩
end Go.Proofs.YtbjddomocggjmaaGreat.Sc
end
section
namespace Go.Proofs.YtbjddomocggjmaaGreat.Sc
open Go.RowKit Go.ChangeShapes Go.WideShapes Go.Proofs.YtbjddomocggjmaaGreat.Sep
open Go.Proofs.YtbjddomocggjmaaGreatW.PrintWords
variable {B : Nat} {w0 w : World} {R : HP}
def hasI (s : ByteArray) (x : Im) : Bool := (kys x.f0).contains s.data.toList
def impP (s : ByteArray) : List Im → ByteArray
 | [] => ⟨#[]⟩
 | x :: l => if hasI s x = true then dotB x.f1 s else impP s l
def fullP (m : Md) (s : ByteArray) : ByteArray := if ownR m s = true then dotB m.n s else impP s m.im
theorem impP_none {s : ByteArray} : ∀ {l : List Im},(∀ x ∈ l,hasI s x = false) → impP s l = ⟨#[]⟩
 | [],_ => rfl
 | x :: l,h => by
  unfold impP
  rw [h x (by simp),if_neg (by simp)]
  exact impP_none fun y hy => h y (by simp [hy])
theorem impP_at {s : ByteArray} : ∀ {l : List Im} {i : Nat} {x : Im},(∀ y ∈ l.take i,hasI s y = false) → l[i]? = some x → hasI s x = true → impP s l = dotB x.f1 s
 | [],i,x,_,h,_ => by simp at h
 | c :: l,0,x,_,h,hx => by
  cases h
  unfold impP
  rw [if_pos hx]
 | c :: l,i + 1,x,ht,h,hx => by
  unfold impP
  rw [ht c (by simp),if_neg (by simp)]
  exact impP_at (i := i) (fun y hy => ht y (by rw [List.take_succ_cons]; exact List.mem_cons_of_mem _ hy)) (by simpa using h) hx
set_option maxHeartbeats 16000000 in
set_option maxRecDepth 100000 in
theorem rfull_calls (m : Md) (cs : List Value) (s : ByteArray) (h : S w0 w R) (hK : kMd.K w0 m cs) (om : oS m.n) (oi : ∀ x ∈ m.im,oS x.f1) (os : oS s) :
  Calls Tryz.prog 45 #[.agg cs.toArray,.string s] w fun e w' => e = .returned (.string (fullP m s)) ∧ S w0 w' R := by
 obtain ⟨A2,c2,A3,c3,rfl,l2,g2,l3,g3⟩ := kMd_open hK
 have hl : m.im.length ≤ 9223372036854775807 := g2.2.1
 have HC := Lib.hid (And.intro g2 (And.intro (show kMd.K w0 m [.string m.n,.bool m.au,.slice A2 m.im.length c2,.slice A3 m.df.length c3] from hK) oi))
 have y1 : m.n.size ≤ 140737488355328 := om
 have y2 : s.size ≤ 140737488355328 := os
 have y3 : (m.n ++ (⟨#[46]⟩ : ByteArray)).size = m.n.size + 1 := ByteArray.size_append
 generalize hg : w.heap.size = g
 have H := Lib.hid (alloc_at (n := g) h (.cells #[.string m.n,.bool m.au,.slice A2 m.im.length c2,.slice A3 m.df.length c3] 44) hg.symm)
 clear h hK l2 g2 l3 g3 om oi os
 go_enter Tryz.func45,Tryz.ntmps45
 go_wp2_with (refine held_load 44 _ rfl ?_)
 refine ⟨?_⟩
 refine wpList_load_row rfl 44 _ rfl g rfl _ _ _ _ H.out.block Tryz.underlying44 rfl (by kernel_rfl) ?_
 go_wp2_with fail
 refine (rown_calls m _ s H.out HC.out.2.1).mono ?_
 rintro e w1 ⟨rfl,h1⟩
 have H1 := Lib.hid h1
 clear h1 H
 cases ho : ownR m s with
 | true =>
  have d0 := H1.out.cell 0 rfl
  have HZ : Hid (fullP m s = m.n ++ ⟨#[46]⟩ ++ s) := Lib.hid (by unfold fullP; rw [if_pos ho]; rfl)
  clear ho
  go_wp2
  go_ret
  exact ⟨by rw [HZ.out]; rfl,H1.out.drop⟩
 | false =>
  have HZ : Hid (fullP m s = impP s m.im) := Lib.hid (by unfold fullP; rw [ho,if_neg (by simp)])
  clear ho
  go_wp2
  go_loopw [5] (fun v wr => ∃ x : Int,0 ≤ x ∧ x ≤ m.im.length ∧ v = .int .i64 x ∧ Hid (S w0 wr (Blk g (.cells #[.string m.n,.bool m.au,.slice A2 m.im.length c2,.slice A3 m.df.length c3] 44) • R)) ∧ Hid (∀ y ∈ m.im.take x.toNat,hasI s y = false)) (fun v _ => m.im.length - (intOf v).toNat)
  case atStart => exact ⟨0,Int.le_refl _,by omega,rfl,H1,Lib.hid (by simp)⟩
  case round =>
   clear H1
   obtain ⟨x,hx0,hx1,rfl,HR,HT⟩ := hrel
   have b2 := HR.out.cell 2 rfl
   by_cases hlt : x < m.im.length
   ·obtain ⟨ad,cs,eA,hcl0,hK,hcell0⟩ := Kd.C_get HC.out.1 zIm x hx0 hlt
    cases eA
    have hcell : ∀ (j : Nat) (u : Value),cs[j]? = some u → w0.cell? (ad.add (x.toNat * 2 + j)) = some u := hcell0
    have HG := Lib.hid (getD_mem m.im zIm x hx0 hlt)
    generalize m.im.getD x.toNat zIm = r at *
    obtain ⟨A0,c0,rfl,l0,g0⟩ := PScopeResolves.k50_open (show kIm.K w0 r cs from hK)
    have HF : Hid (∀ W,Below w0.heap.size w0 W → W.cell? (ad.add (x.toNat * 2)) = some (.slice A0 r.f0.length c0) ∧ W.cell? ⟨(ad.add (x.toNat * 2)).block,(ad.add (x.toNat * 2)).off + 1,none⟩ = some (.string r.f1)) := Lib.hid fun W hW => by
     refine ⟨pw_cell_below hW (hcell 0 _ rfl), ?_⟩
     rw [← add_field ad _ 1 (by decide)]
     exact pw_cell_below hW (hcell 1 _ rfl)
    have HG0 := Lib.hid g0
    have hl0 : r.f0.length ≤ 9223372036854775807 := g0.2.1
    have y5 : r.f1.size ≤ 140737488355328 := HC.out.2.2 r (List.mem_of_getElem? HG.out)
    have y6 : (r.f1 ++ (⟨#[46]⟩ : ByteArray)).size = r.f1.size + 1 := ByteArray.size_append
    have p126 := eq_true hx0
    have q126 : (x < (m.im.length : Int)) = True := eq_true hlt
    clear hcell hcell0 hcl0 hK l0 g0
    go_wp2
    clear b2
    go_loopw [6] (fun v wr => ∃ k : Int,0 ≤ k ∧ k ≤ r.f0.length ∧ v = .int .i64 k ∧ Hid (S w0 wr (Blk g (.cells #[.string m.n,.bool m.au,.slice (some ad) m.im.length c2,.slice A3 m.df.length c3] 44) • R)) ∧ Hid (s.data.toList ∉ kys (r.f0.take k.toNat))) (fun v _ => r.f0.length - (intOf v).toNat)
    case atStart => exact ⟨0,Int.le_refl _,by omega,rfl,HR,Lib.hid (by simp [kys])⟩
    case round =>
     clear HR
     obtain ⟨k,hk0,hk1,rfl,HS,HN⟩ := hrel
     have b2 := HS.out.cell 2 rfl
     obtain ⟨e0,e1⟩ := HF.out _ HS.out.below
     by_cases hlk : k < r.f0.length
     ·obtain ⟨ad',cs',eA',hcl0',hK',hcell0'⟩ := Kd.C_get HG0.out (⟨#[]⟩ : ByteArray) k hk0 hlk
      cases eA'
      have HGk := Lib.hid (getD_mem r.f0 (⟨#[]⟩ : ByteArray) k hk0 hlk)
      obtain rfl : cs' = [.string (r.f0.getD k.toNat (⟨#[]⟩ : ByteArray))] := hK'
      generalize r.f0.getD k.toNat (⟨#[]⟩ : ByteArray) = q at *
      have hcell' : ∀ (j : Nat) (u : Value),([.string q] : List Value)[j]? = some u → w0.cell? (ad'.add (k.toNat * 1 + j)) = some u := hcell0'
      have d1 : wr.cell? (ad'.add k.toNat) = some (.string q) := by have h := pw_cell_below HS.out.below (hcell' 0 _ rfl); rwa [Nat.mul_one,Nat.add_zero] at h
      have HKk := Lib.hid (kys_take r.f0 k q hk0 HGk.out)
      have p127 := eq_true hk0
      have q127 : (k < (r.f0.length : Int)) = True := eq_true hlk
      clear hcell' hcell0' hcl0'
      by_cases he : q.data.toList = s.data.toList
      ·have y0 : (q.toList == s.toList) = true := by rw [Lib.toList_data,Lib.toList_data]; exact beq_iff_eq.2 he
       have HZ2 : Hid (fullP m s = r.f1 ++ ⟨#[46]⟩ ++ s) := Lib.hid (by
        rw [HZ.out,impP_at HT.out HG.out]
        ·rfl
        ·unfold hasI
         rw [List.contains_iff_mem]
         exact List.mem_map.2 ⟨q,List.mem_of_getElem? HGk.out,he⟩)
       clear he
       go_wp2
       go_ret
       exact ⟨by rw [HZ2.out]; rfl,HS.out.drop⟩
      ·have y0 : (q.toList == s.toList) = false := by rw [Lib.toList_data,Lib.toList_data]; exact beq_eq_false_iff_ne.2 he
       have HN2 : Hid (s.data.toList ∉ kys (r.f0.take (k + 1).toNat)) := Lib.hid (by
        rw [HKk.out]
        intro hm
        rcases List.mem_append.1 hm with hm | hm
        ·exact HN.out hm
        ·exact he (List.mem_singleton.1 hm).symm)
       clear he
       go_wp2
       exact ⟨⟨k + 1,by omega,by omega,by go_num,HS,HN2⟩,by simp only [intOf]; omega⟩
     ·have hlk' : (k < (r.f0.length : Int)) = False := eq_false hlk
      have HT2 : Hid (∀ y ∈ m.im.take (x + 1).toNat,hasI s y = false) := Lib.hid (by
       rw [take_nextR hx0 HG.out]
       intro y hy
       rcases List.mem_append.1 hy with hy | hy
       ·exact HT.out y hy
       ·rw [List.mem_singleton.1 hy]
        unfold hasI
        rw [Bool.eq_false_iff,ne_eq,List.contains_iff_mem]
        have h := HN.out
        rwa [List.take_of_length_le (by omega)] at h)
      go_wp2
      exact ⟨⟨x + 1,by omega,by omega,by go_num,HS,HT2⟩,by simp only [intOf]; omega⟩
   ·have hlt' : (x < (m.im.length : Int)) = False := eq_false hlt
    have HZ2 : Hid (fullP m s = ⟨#[]⟩) := Lib.hid (by
     have h := HT.out
     rw [List.take_of_length_le (by omega)] at h
     rw [HZ.out,impP_none h])
    go_wp2
    go_ret
    exact ⟨by rw [HZ2.out]; rfl,HR.out.drop⟩
end Go.Proofs.YtbjddomocggjmaaGreat.Sc
end
