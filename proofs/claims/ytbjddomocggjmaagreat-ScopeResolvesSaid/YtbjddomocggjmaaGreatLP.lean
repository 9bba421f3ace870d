/- scope.once: walked. -/
import Derived.Maps.OwnSet
import Derived.Maps.OwnOps
import Derived.Test.YtbjddomocggjmaaGreatLD
import Derived.Test.YtbjddomocggjmaaGreatLE
section
namespace Go.Proofs.YtbjddomocggjmaaGreat.Sc
open Go.RowKit Go.Maps Go.ChangeMaps Go.MapKept Go.Proofs.YtbjddomocggjmaaGreat.Sep
variable {B b : Nat} {w0 w : World} {R : HP}
abbrev Kv := List (List UInt8 × Value)
def mapD (m : Kv) : DataW Value := m.foldl (fun D p => D.put (.string p.1) (.held p.2)) (.map [])
def lookK (m : Kv) (k : List UInt8) : Option Value := (m.reverse.find? fun p => p.1 == k).map (·.2)
def anyV (v : Value) : Option (DataW Value × List MemPlace) := some (.held v,[])
theorem mapD_snoc (m : Kv) (k : List UInt8) (v : Value) : mapD (m ++ [(k,v)]) = (mapD m).put (.string k) (.held v) := by simp [mapD]
theorem lookK_snoc (m : Kv) (k k' : List UInt8) (v : Value) : lookK (m ++ [(k,v)]) k' = if k = k' then some v else lookK m k' := by
 unfold lookK
 rw [List.reverse_append,List.reverse_singleton,List.singleton_append,List.find?_cons]
 by_cases h : k = k'
 ·rw [if_pos h,show (k == k') = true from beq_iff_eq.2 h]; rfl
 ·rw [if_neg h,show (k == k') = false from beq_eq_false_iff_ne.2 h]
theorem mapD_isMap_rev : ∀ r : Kv,IsMap (mapD r.reverse)
 | [] => isMap_empty
 | (k,v) :: r => by rw [List.reverse_cons,mapD_snoc]; exact (mapD_isMap_rev r).put _ _
theorem mapD_isMap (m : Kv) : IsMap (mapD m) := by have := mapD_isMap_rev m.reverse; rwa [List.reverse_reverse] at this
theorem mapD_at_rev (k : List UInt8) (z : DataW Value) : ∀ r : Kv,(mapD r.reverse).atKey (.string k) z = match lookK r.reverse k with | some v => .held v | none => z
 | [] => rfl
 | (x,v) :: r => by
  rw [List.reverse_cons,mapD_snoc,lookK_snoc]
  by_cases e : x = k
  ·subst e
   rw [if_pos rfl,Maps.atKey_put_same (mapD_isMap _) (by trivial)]
  ·rw [if_neg e,Maps.atKey_put_other (fun h => e (by simpa using h.symm)),mapD_at_rev k z r]
theorem mapD_at (m : Kv) (k : List UInt8) (z : DataW Value) : (mapD m).atKey (.string k) z = match lookK m k with | some v => .held v | none => z := by
 have := mapD_at_rev k z m.reverse
 rwa [List.reverse_reverse] at this
theorem mapD_has (m : Kv) (k : List UInt8) : Maps.has (mapD m) (.string k) = (lookK m k).isSome := by
 cases h : lookK m k with
 | none => exact Maps.has_false_of_atKey fun z => by rw [mapD_at,h]
 | some v => exact Maps.has_true_of_atKey (y := .held v) fun z => by rw [mapD_at,h]
theorem str_keyed : Maps.Keyed Tryz.prog 9 := string_keyed Tryz.underlying9
def MapV (b : Nat) (m : Kv) : HP where
 on w F := F b ∧ w.ownsMap Tryz.prog 9 anyV b m.length (mapD m)
 loc := fun ⟨h1,h2⟩ h => ⟨h1,by obtain ⟨es,clock,hb,r⟩ := h2; exact ⟨es,clock,(h _ h1).trans hb,r⟩⟩
 up := fun ⟨h1,h2⟩ h => ⟨h _ h1,h2⟩
theorem mv_owns {m : Kv} (h : St B w0 w (MapV b m • R)) : w.ownsMap Tryz.prog 9 anyV b m.length (mapD m) := by
 obtain ⟨_,_,F,hF,F1,F2,h1,h2,hd,⟨_,ha⟩,hr⟩ := h
 exact ha
theorem mv_made {n : Nat} (h : St B w0 w R) (hn : n = w.heap.size) : St B w0 (w.alloc (.map #[] 0)) (MapV n [] • R) := by
 subst hn
 exact (h.alloc (.map #[] 0)).mapFirst fun w' F h => ⟨h.1,⟨#[],0,h.2,⟨by simp,stamped_empty 0,by simp⟩,Nat.le_refl _,rfl⟩⟩
section
variable {m : Kv} {t e : TypeId} (ht : Tryz.prog.underlying t = some (.map 9 e)) {z : Value} (hz : (zeroValue e).run Tryz.prog w = .ok z w)
include ht hz
theorem mv_look (h : St B w0 w (MapV b m • R)) (s : ByteArray) (hs : s.size ≤ maxLen) : (Instr.lookup t (.map (some b)) (.string s) false).run Tryz.prog w = .ok ((lookK m s.data.toList).getD z) w := by
 obtain ⟨v,ps,h1,h2⟩ := (mv_owns h).lookup str_keyed ht hz (show anyV z = some (.held z,[]) from rfl) (WideMaps.keyOf_string_mk Tryz.underlying9 hs)
 rw [mapD_at] at h2
 have : v = (lookK m s.data.toList).getD z := by
  cases hl : lookK m s.data.toList with
  | none => rw [hl] at h2; simp [anyV] at h2; simpa using h2.1
  | some u => rw [hl] at h2; simp [anyV] at h2; simpa using h2.1
 rw [← this]
 exact h1
theorem mv_lookOk (h : St B w0 w (MapV b m • R)) (s : ByteArray) (hs : s.size ≤ maxLen) : (Instr.lookup t (.map (some b)) (.string s) true).run Tryz.prog w = .ok (.tuple #[(lookK m s.data.toList).getD z,.bool (lookK m s.data.toList).isSome]) w := by
 obtain ⟨v,ps,h1,h2⟩ := (mv_owns h).look_ok str_keyed ht hz (show anyV z = some (.held z,[]) from rfl) (WideMaps.keyOf_string_mk Tryz.underlying9 hs)
 rw [mapD_at] at h2
 rw [mapD_has] at h1
 have : v = (lookK m s.data.toList).getD z := by
  cases hl : lookK m s.data.toList with
  | none => rw [hl] at h2; simp [anyV] at h2; simpa using h2.1
  | some u => rw [hl] at h2; simp [anyV] at h2; simpa using h2.1
 rw [← this]
 exact h1
end
theorem mv_put {m : Kv} {t e : TypeId} (ht : Tryz.prog.underlying t = some (.map 9 e)) (h : St B w0 w (MapV b m • R)) (s : ByteArray) (v : Value) (hs : s.size ≤ maxLen) (hn : m.length < maxLen) :
  ∃ w',(Instr.mapUpdate t (.map (some b)) (.string s) v).run Tryz.prog w = .ok () w' ∧ St B w0 w' (MapV b (m ++ [(s.data.toList,v)]) • R) := by
 obtain ⟨w',h1,h2,h3⟩ := (mv_owns h).store str_keyed ht hn (WideMaps.keyOf_string_mk Tryz.underlying9 hs) (show anyV v = some (.held v,[]) from rfl)
 refine ⟨w',h1, ?_⟩
 rw [← mapD_snoc] at h2
 obtain ⟨es,clock,es',clock',hb,rfl⟩ := h3
 refine h.step (by simp [setBlock]) rfl rfl rfl fun F hF ⟨hf,_⟩ => ⟨fun k hk hnk => heap_setBlock_other hb _ (fun e => hnk (e ▸ hf)),F,fun b hb => .inl hb,hf, ?_⟩
 have e : (m ++ [(s.data.toList,v)]).length = m.length + 1 := by simp
 rw [e]
 exact h2
theorem wpList_putV {m : Kv} {t e : TypeId} (ht : Tryz.prog.underlying t = some (.map 9 e)) {ops : Array Oper} {rest : List Oper} {o : Oper} {a : Act} {Q : Exit → Act → World → Prop} (hg : o.guard = none) (om x v : Operand) (hop : o.op = Op.mapUpdate t om x v)
  (hm : a.eval om = .map (some b)) (s : ByteArray) (hx : a.eval x = .string s) (u : Value) (hv : a.eval v = u) (h : St B w0 w (MapV b m • R)) (hs : s.size ≤ maxLen) (hn : m.length < maxLen)
  (hK : ∀ w',St B w0 w' (MapV b (m ++ [(s.data.toList,u)]) • R) → wpList Tryz.prog ops Q rest (a.put o.dst undef) w') : wpList Tryz.prog ops Q (o :: rest) a w := by
 refine wpList_plain hg fun K' hK' => ?_
 obtain ⟨w',hrun,r⟩ := mv_put ht h s u hs hn
 unfold Oper.wp
 simp [execOp,hop,hm,hx,hv,hrun,Result.andThen]
 exact hK' _ _ (hK w' r)
theorem zero_bool (w : World) : (zeroValue 4).run Tryz.prog w = .ok (.bool false) w := by kernel_rfl
theorem zero_str (w : World) : (zeroValue 9).run Tryz.prog w = .ok (.string ByteArray.empty) w := by kernel_rfl
theorem zero_names (w : World) : (zeroValue 59).run Tryz.prog w = .ok (.agg #[.map none,.map none]) w := by kernel_rfl
end Go.Proofs.YtbjddomocggjmaaGreat.Sc
end
section
namespace Go.Proofs.YtbjddomocggjmaaGreat.Sc
open Go.RowKit Go.ChangeShapes Go.WideShapes Go.Proofs.YtbjddomocggjmaaGreat.Sep
open Go.Proofs.YtbjddomocggjmaaGreatW.PrintWords
variable {B : Nat} {w0 w w1 : World} {R : HP}
theorem nest {A : HP} (h1 : St B w0 w1 R) (h2 : St w1.heap.size w1 w A) : St B w0 w (A • R) := by
 obtain ⟨hb,hs,F,hF,hR⟩ := h1
 obtain ⟨hb2,hs2,G,hG,hA⟩ := h2
 refine ⟨hb.trans (hb2.mono hs),by omega,fun b => G b ∨ F b, ?_,G,F,fun b h => .inl h,fun b h => .inr h, ?_,hA, ?_⟩
 ·rintro b (h | h)
  ·have := hG b h; omega
  ·have := hF b h; omega
 ·intro b h3 h4
  have := hG b h3
  have := hF b h4
  omega
 ·exact R.loc hR fun b h => hb2.block b (hF b h).2
def kys (l : List ByteArray) : List (List UInt8) := l.map fun s => s.data.toList
def onceB (l : List ByteArray) : Bool := decide (kys l).Nodup
def setM (ks : List (List UInt8)) : Kv := ks.map fun k => (k,.bool true)
theorem setM_snoc (ks : List (List UInt8)) (k : List UInt8) : setM (ks ++ [k]) = setM ks ++ [(k,.bool true)] := by simp [setM]
theorem look_set_rev (k : List UInt8) : ∀ r : List (List UInt8),(lookK (setM r.reverse) k).getD (.bool false) = .bool (r.contains k)
 | [] => rfl
 | x :: r => by
  rw [List.reverse_cons,setM_snoc,lookK_snoc]
  by_cases e : x = k
  ·rw [if_pos e]; subst e; simp
  ·rw [if_neg e,look_set_rev k r]
   have hne : k ≠ x := fun h => e h.symm
   simp [hne]
theorem look_set (k : List UInt8) (ks : List (List UInt8)) : (lookK (setM ks) k).getD (.bool false) = .bool (ks.contains k) := by
 have h := look_set_rev k ks.reverse
 rw [List.reverse_reverse] at h
 rw [h]
 congr 1
 rw [Bool.eq_iff_iff,List.contains_iff_mem,List.contains_iff_mem,List.mem_reverse]
theorem kys_take (l : List ByteArray) (x : Int) (s : ByteArray) (h0 : 0 ≤ x) (h : l[x.toNat]? = some s) : kys (l.take (x + 1).toNat) = kys (l.take x.toNat) ++ [s.data.toList] := by
 have e : (x + 1).toNat = x.toNat + 1 := by omega
 rw [e,List.take_add_one,h]
 simp [kys]
structure HeldT (p : Prop) : Prop where
 out : p
set_option maxHeartbeats 4000000 in
set_option maxRecDepth 100000 in
theorem once_calls (A : Option Addr) (c : Nat) (l : List ByteArray) (h : S w0 w R) (hC : Kd.string.C w0 A l.length l) (ho : ∀ s ∈ l,oS s) :
  Calls Tryz.prog 36 #[.slice A l.length c] w fun e w' => e = .returned (.bool (onceB l)) ∧ S w0 w' R := by
 have hl : l.length ≤ 9223372036854775807 := hC.2.1
 have HC := Lib.hid (And.intro hC ho)
 have hmm := @run_makeMap Tryz.prog
 generalize hg : w.heap.size = g
 have H := Lib.hid (mv_made (n := g) h hg.symm)
 clear h hC ho
 go_enter Tryz.func36,Tryz.ntmps36
 go_wp2
 go_loopw [9] (fun v wr => ∃ x : Int,0 ≤ x ∧ x ≤ l.length ∧ v = .int .i64 x ∧ Hid (S w0 wr (MapV g (setM (kys (l.take x.toNat))) • R)) ∧ Hid ((kys (l.take x.toNat)).Nodup)) (fun v _ => l.length - (intOf v).toNat)
 case atStart => exact ⟨0,Int.le_refl _,by omega,rfl,H,Lib.hid (by simp [kys])⟩
 case round =>
  clear H
  obtain ⟨x,hx0,hx1,rfl,HR,HT⟩ := hrel
  by_cases hlt : x < l.length
  ·obtain ⟨ad,cs,rfl,hcl0,hK,hcell0⟩ := Kd.C_get HC.out.1 (⟨#[]⟩ : ByteArray) x hx0 hlt
   have hcell : ∀ (j : Nat) (u : Value),cs[j]? = some u → w0.cell? (ad.add (x.toNat * 1 + j)) = some u := hcell0
   have HG := Lib.hid (getD_mem l (⟨#[]⟩ : ByteArray) x hx0 hlt)
   obtain rfl : cs = [.string (l.getD x.toNat (⟨#[]⟩ : ByteArray))] := hK
   generalize l.getD x.toNat (⟨#[]⟩ : ByteArray) = r at *
   have hor : r.size ≤ 140737488355328 := HC.out.2 r (List.mem_of_getElem? HG.out)
   have d0 : wr.cell? (ad.add x.toNat) = some (.string r) := by have h := pw_cell_below HR.out.below (hcell 0 _ rfl); rwa [Nat.mul_one,Nat.add_zero] at h
   have hs : r.size ≤ maxLen := by simp only [maxLen]; omega
   have e0 := mv_look Tryz.underlying57 (zero_bool wr) HR.out r hs
   rw [look_set] at e0
   have hn : (setM (kys (l.take x.toNat))).length < maxLen := by
    simp only [setM,kys,List.length_map,List.length_take,maxLen]; omega
   have HN := Lib.hid (And.intro hs hn)
   have p126 := eq_true hx0
   have q126 : (x < (l.length : Int)) = True := eq_true hlt
   have HK := Lib.hid (kys_take l x r hx0 HG.out)
   clear hcell hcell0 hcl0 hs hn
   cases hq : (kys (l.take x.toNat)).contains r.data.toList with
   | true =>
    rw [hq] at e0
    have HZ : Hid (onceB l = false) := Lib.hid (by
     unfold onceB
     rw [decide_eq_false_iff_not]
     intro hnd
     have : (kys (l.take (x + 1).toNat)).Nodup := by
      have e : kys (l.take (x + 1).toNat) = (kys l).take (x + 1).toNat := by simp [kys,List.map_take]
      rw [e]
      exact hnd.sublist (List.take_sublist _ _)
     rw [HK.out,List.nodup_append] at this
     exact this.2.2 _ (List.contains_iff_mem.1 hq) _ (by simp) rfl)
    clear hq
    go_wp2
    go_ret
    exact ⟨by rw [HZ.out]; rfl,HR.out.drop⟩
   | false =>
    rw [hq] at e0
    have HZ : Hid ((kys (l.take (x + 1).toNat)).Nodup) := Lib.hid (by
     rw [HK.out,List.nodup_append]
     refine ⟨HT.out,by simp,fun a ha b hb => ?_⟩
     obtain rfl := List.mem_singleton.1 hb
     rintro rfl
     rw [List.contains_iff_mem.2 ha] at hq
     cases hq)
    clear hq
    go_wp2_with (at_mapUpdate; refine HeldT.out ?_)
    refine ⟨?_⟩
    refine wpList_putV Tryz.underlying57 rfl _ _ _ rfl rfl _ rfl _ rfl HR.out HN.out.1 HN.out.2 ?_
    intro w3 h3
    change S w0 w3 (MapV g (setM (kys (l.take x.toNat)) ++ [(r.data.toList,.bool true)]) • R) at h3
    rw [← setM_snoc, ← HK.out] at h3
    have H3 := Lib.hid h3
    clear h3
    go_wp2
    exact ⟨⟨x + 1,by omega,by omega,by go_num,H3,HZ⟩,by simp only [intOf]; omega⟩
  ·have hlt' : (x < (l.length : Int)) = False := eq_false hlt
   have HZ : Hid (onceB l = true) := Lib.hid (by
    unfold onceB
    rw [decide_eq_true_iff]
    have h := HT.out
    rwa [List.take_of_length_le (by omega)] at h)
   go_wp2
   go_ret
   exact ⟨by rw [HZ.out]; rfl,HR.out.drop⟩
theorem once_at (A : Option Addr) (c : Nat) (l : List ByteArray) (h : St B w0 w R) (hC : Kd.string.C w A l.length l) (ho : ∀ s ∈ l,oS s) :
  Calls Tryz.prog 36 #[.slice A l.length c] w fun e w' => e = .returned (.bool (onceB l)) ∧ St B w0 w' R :=
 (once_calls (w0 := w) (R := emp) A c l (St.start w) hC ho).mono fun _ _ ⟨h1,h2⟩ => ⟨h1,(nest h h2).drop⟩
end Go.Proofs.YtbjddomocggjmaaGreat.Sc
end
