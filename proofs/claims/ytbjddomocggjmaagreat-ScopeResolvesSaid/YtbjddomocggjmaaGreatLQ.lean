/- What scope's typ makes of a type; what shaped says of its parts; rows of which elements are set anew. -/
import Derived.Lib.AppendZeros
import Derived.Test.YtbjddomocggjmaaGreatLG
import Derived.Test.YtbjddomocggjmaaGreatLH
import Derived.Test.YtbjddomocggjmaaGreatLN
import Derived.Test.YtbjddomocggjmaaGreatLP
section
namespace Go.Proofs.YtbjddomocggjmaaGreat.Sc
open Go.RowKit Go.ChangeShapes Go.WideShapes Go.Proofs.YtbjddomocggjmaaGreat.Sep
open Go.Proofs.YtbjddomocggjmaaGreatW.PrintWords
variable {B : Nat} {w0 w w1 : World} {R : HP}
def strV (l : List ByteArray) : List Value := l.map Value.string
theorem str_rows {W : World} {A : Option Addr} {l : List ByteArray} (h : Kd.string.C W A l.length l) : ∀ (j : Nat) (u : Value),(strV l)[j]? = some u → ∃ ad,A = some ad ∧ W.cell? (ad.add j) = some u := by
 intro j u hu
 have hj := (List.getElem?_eq_some_iff.1 hu).1
 rw [strV,List.length_map] at hj
 obtain ⟨ad,e,hc⟩ := h.2.2 (by omega)
 obtain ⟨c,hcl,hk,hcell⟩ := hc j _ (List.getElem?_eq_getElem hj)
 obtain rfl : c = [.string l[j]] := hk
 refine ⟨ad,e, ?_⟩
 have h0 := hcell 0 _ rfl
 rw [strV,List.getElem?_map,List.getElem?_eq_getElem hj] at hu
 simp only [Option.map_some,Option.some.injEq] at hu
 subst hu
 have e1 : j * Kd.string.sz + 0 = j := Nat.mul_one j
 rwa [e1] at h0
theorem str_one (l : List ByteArray) : ∀ u ∈ strV l,u.oneCell' = true := by
 intro u hu
 obtain ⟨s,_,rfl⟩ := List.mem_map.1 hu
 rfl
theorem str_C {v : Value} {n : Nat} {l : List ByteArray} (hn : n = l.length) (h : St B w0 w (RowV 9 1 v n (strV l) • R)) : ∃ A c,v = .slice A l.length c ∧ Kd.string.C w A l.length l := by
 subst hn
 obtain ⟨h1,A,c,rfl,h2,h3,h4⟩ := h.reads
 refine ⟨A,c,rfl,rfl,by simp only [maxLen] at h3; omega,fun h0 => ?_⟩
 obtain ⟨ad,rfl, -⟩ := h4 0 _ (List.getElem?_eq_getElem (by rw [h1]; omega))
 refine ⟨ad,rfl,fun j p hp => ⟨[.string p],rfl,rfl,fun i u hu => ?_⟩⟩
 have hi : i = 0 := by have := (List.getElem?_eq_some_iff.1 hu).1; simp at this; omega
 subst hi
 simp only [List.getElem?_cons_zero,Option.some.injEq] at hu
 subst hu
 obtain ⟨ad',e,h5⟩ := h4 j (.string p) (by rw [strV,List.getElem?_map,hp]; rfl)
 cases e
 have e1 : j * Kd.string.sz + 0 = j := Nat.mul_one j
 rwa [e1]
theorem size_zs (n : Nat) : (Builtin.zeroCells (Value.string ByteArray.empty).cells n).size = n := by
 rw [size_zeroCells]
 exact Nat.mul_one n
set_option maxHeartbeats 2000000 in
set_option maxRecDepth 100000 in
theorem grow_calls (n : Nat) (h : St B w0 w R) (hn : n ≤ 1000000000) :
  Calls Tryz.prog 60 #[.slice none 0 0,.int .i64 n] w fun e w' => ∃ v',e = .returned v' ∧ St B w0 w' (RowV 9 1 v' 0 [] • R) := by
 have H := Lib.hid h
 clear h
 by_cases h0 : 0 < n
 ·obtain ⟨i0,hi,hz0,hz1,hz2⟩ := info_parts info_strs
  have hrun := Lib.run_append_nil_zeros (P := Tryz.prog) w 34 3 34 9 i0 _ .i64 _ Tryz.underlying34 Tryz.underlying3 hi hz0 n h0 (by omega) (by omega) (by rw [hz2]; omega)
  have hge := grownCap_ge w n 0 9
  have hcm : grownCap w n 0 9 ≤ maxLen := grownCap_le_maxLen w n 0 9 (by simp only [maxLen]; omega)
  have HA := Lib.hid (H.out.drew.alloc (.cells (Builtin.zeroCells (Value.string ByteArray.empty).cells n ++ Builtin.zeroCells (Value.string ByteArray.empty).cells (grownCap w n 0 9 - n)) 9))
  have HS : Hid ((Builtin.zeroCells (Value.string ByteArray.empty).cells n ++ Builtin.zeroCells (Value.string ByteArray.empty).cells (grownCap w n 0 9 - n)).size = grownCap w n 0 9 * 1) := Lib.hid (by
   rw [Array.size_append,size_zs,size_zs]
   omega)
  have hgr : (0 : Int) < n := by omega
  clear hz0 hz1 hz2 hi
  go_enter Tryz.func60,Tryz.ntmps60
  go_wp2_with (at_builtin; refine Lib.wpList_append_run _ rfl _ _ _ _ rfl _ _ rfl rfl _ _ hrun ?_)
  go_ret
  exact ⟨_,rfl,HA.out.blkRow (n := 0) (size := 1) (xs := []) (Nat.zero_le _) hcm HS.out (.inr (Nat.le_refl _)) rfl⟩
 ·obtain rfl : n = 0 := by omega
  go_enter Tryz.func60,Tryz.ntmps60
  go_wp2
  go_ret
  exact ⟨_,rfl,H.out.nil _ _⟩
set_option maxHeartbeats 2000000 in
set_option maxRecDepth 100000 in
theorem concat_calls (p : Nat) (A : Option Addr) (c : Nat) (A' : Option Addr) (c' : Nat) (a b : List ByteArray) (h : St B w0 w R) (hp : ∀ W,St B w0 W R → W.cell? ⟨p,0,none⟩ = some (.slice A a.length c) ∧ W.cell? ⟨p,1,none⟩ = some (.slice A' b.length c')) (ha : ∀ W,St B w0 W R → Kd.string.C W A a.length a) (hb : ∀ W,St B w0 W R → Kd.string.C W A' b.length b) (hla : a.length ≤ 1000000) (hlb : b.length ≤ 1000000) :
  Calls Tryz.prog 37 #[.slice (some ⟨p,0,none⟩) 2 2] w fun e w' => ∃ v',e = .returned v' ∧ St B w0 w' (RowV 9 1 v' (a ++ b).length (strV (a ++ b)) • R) := by
 have H := Lib.hid (And.intro h (And.intro hp (And.intro ha hb)))
 obtain ⟨c0,c1⟩ := hp w h
 clear h hp ha hb
 go_enter Tryz.func37,Tryz.ntmps37
 go_wp2
 go_loop [3,11] (fun z i => (z = .int .i64 0 ∧ i = .int .i64 0) ∨ (z = .int .i64 a.length ∧ i = .int .i64 1) ∨ (z = .int .i64 (a.length + b.length) ∧ i = .int .i64 2)) (fun _ i => 2 - (intOf i).toNat)
 case atStart => exact .inl ⟨rfl,rfl⟩
 case round =>
  rcases hrel with ⟨rfl,rfl⟩ | ⟨rfl,rfl⟩ | ⟨rfl,rfl⟩
  ·go_wp2
   exact ⟨.inr (.inl ⟨by go_num,rfl⟩),by decide⟩
  ·have hn : ¬ ((a.length : Int) + b.length < 0) := by omega
   go_wp2
   exact ⟨.inr (.inr ⟨by go_num,rfl⟩),by decide⟩
  ·clear c0 c1
   go_wp2_with fail
   refine (grow_calls (a.length + b.length) H.out.1 (by omega)).mono ?_
   rintro e w1 ⟨v1,rfl,h1⟩
   have H1 := Lib.hid h1
   clear h1
   go_wp2_with fail
   go_loopw [6,27] (fun vo i wr => (i = .int .i64 0 ∧ Hid (St B w0 wr (RowV 9 1 vo 0 [] • R))) ∨ (i = .int .i64 1 ∧ Hid (St B w0 wr (RowV 9 1 vo (0 + a.length) ([] ++ strV a) • R))) ∨ (i = .int .i64 2 ∧ Hid (St B w0 wr (RowV 9 1 vo (0 + a.length + b.length) ([] ++ strV a ++ strV b) • R)))) (fun _ i _ => 2 - (intOf i).toNat)
   case atStart => exact .inl ⟨rfl,H1⟩
   case round =>
    clear H1
    rcases hrel with ⟨rfl,HS⟩ | ⟨rfl,HS⟩ | ⟨rfl,HS⟩
    ·obtain ⟨c0,c1⟩ := H.out.2.1 _ HS.out.drop
     go_wp2_with (at_builtin; refine Held.out ?_)
     refine ⟨?_⟩
     refine wpList_append (by rfl) _ _ Tryz.underlying34 info_strs rfl (by decide) rfl _ 0 [] rfl HS.out rfl (by simp [strV]) (str_rows (H.out.2.2.1 _ HS.out.drop)) (str_one a) (by simp only [maxLen]; omega) (by omega) ?_
     intro v' w5 h5
     have H5 := Lib.hid h5
     clear h5 HS c0 c1
     go_wp2
     exact ⟨.inr (.inl ⟨rfl,H5⟩),by decide⟩
    ·obtain ⟨c0,c1⟩ := H.out.2.1 _ HS.out.drop
     go_wp2_with (at_builtin; refine Held.out ?_)
     refine ⟨?_⟩
     refine wpList_append (by rfl) _ _ Tryz.underlying34 info_strs rfl (by decide) rfl _ (0 + a.length) ([] ++ strV a) rfl HS.out rfl (by simp [strV]) (str_rows (H.out.2.2.2 _ HS.out.drop)) (str_one b) (by simp only [maxLen]; omega) (by omega) ?_
     intro v' w5 h5
     have H5 := Lib.hid h5
     clear h5 HS c0 c1
     go_wp2
     exact ⟨.inr (.inr ⟨rfl,H5⟩),by decide⟩
    ·go_wp2
     go_ret
     exact ⟨_,rfl,by have h := HS.out; rw [show strV (a ++ b) = [] ++ strV a ++ strV b by simp [strV],show (a ++ b).length = 0 + a.length + b.length by simp]; exact h⟩
end Go.Proofs.YtbjddomocggjmaaGreat.Sc
end
section
namespace Go.Proofs.YtbjddomocggjmaaGreat.Sc
open Go.RowKit Go.ChangeShapes Go.WideShapes Go.Proofs.YtbjddomocggjmaaGreat.Sep
open Go.Proofs.YtbjddomocggjmaaGreatW.PrintWords
variable {B : Nat} {w0 w : World} {R : HP}
def mapO {α β : Type} (b : α → Option β) : List α → Option (List β)
 | [] => some []
 | a :: l => match b a,mapO b l with
  | some x,some y => some (x :: y)
  | _,_ => none
theorem mapO_snoc {α β : Type} (b : α → Option β) (a : α) : ∀ l : List α,mapO b (l ++ [a]) = match mapO b l,b a with | some y,some x => some (y ++ [x]) | _,_ => none
 | [] => by cases h : b a <;> simp [mapO,h]
 | c :: l => by
  rw [List.cons_append]
  unfold mapO
  rw [mapO_snoc b a l]
  cases b c <;> cases mapO b l <;> cases b a <;> rfl
theorem mapO_len {α β : Type} (b : α → Option β) : ∀ (l : List α) (y : List β),mapO b l = some y → y.length = l.length
 | [],y,h => by cases h; rfl
 | a :: l,y,h => by
  unfold mapO at h
  cases h1 : b a with
  | none => rw [h1] at h; cases h
  | some x =>
   cases h2 : mapO b l with
   | none => rw [h1,h2] at h; cases h
   | some z =>
    rw [h1,h2] at h
    cases h
    simp [mapO_len b l z h2]
theorem mapO_take {α β : Type} {b : α → Option β} {l : List α} {j : Nat} {a : α} {x : β} {y : List β} (hj : l[j]? = some a) (h : mapO b (l.take j) = some y) (ha : b a = some x) : mapO b (l.take (j + 1)) = some (y ++ [x]) := by
 have e : l.take (j + 1) = l.take j ++ [a] := by rw [List.take_add_one,hj]; rfl
 rw [e,mapO_snoc,h,ha]
theorem mapO_none {α β : Type} {b : α → Option β} : ∀ {l : List α} {a : α},a ∈ l → b a = none → mapO b l = none
 | c :: l,a,h,ha => by
  unfold mapO
  rcases List.mem_cons.1 h with rfl | h
  ·rw [ha]
  ·rw [mapO_none h ha]
   cases b c <;> rfl
def partP (b : Ty → Option Ty) (p : Pt Ty) : Option (Pt Ty) := (b p.t).map fun t => ⟨p.n,t,p.o,p.d⟩
def partsP (b : Ty → Option Ty) (l : List (Pt Ty)) : Option (List (Pt Ty)) := mapO (partP b) l
def ptNames (l : List (Pt Ty)) : List ByteArray := l.map fun p => p.n
def elsP (b : Ty → Option Ty) (t : Ty) : Option Ty :=
 match partsP b t.ps,partsP b t.ad with
 | some ps,some ad => (mapO b t.el).map fun el => ⟨t.k,t.n,t.c,t.e,t.fr,t.ns,t.mo,ps,ad,el⟩
 | _,_ => none
def typP (f : List UInt8 → Option ByteArray) : Nat → Ty → Option Ty
 | 0,_ => none
 | n + 1,t => if t.k = 11 then (f t.n.data.toList).map fun s => ⟨t.k,s,t.c,t.e,t.fr,t.ns,t.mo,t.ps,t.ad,t.el⟩
  else if onceB (ptNames t.ps ++ ptNames t.ad) = true ∧ onceB (t.ns ++ t.mo) = true then elsP (typP f n) t else none
structure Has (b : Ty → Bool) (t : Ty) : Prop where
 con : conB 40 t.c = true
 ns : t.ns.length ≤ 256
 mo : t.mo.length ≤ 256
 ps : t.ps.length ≤ 256 ∧ ∀ p ∈ t.ps,b p.t = true ∧ p.d.length ≤ 1
 ad : t.ad.length ≤ 256 ∧ ∀ p ∈ t.ad,b p.t = true ∧ p.d.length ≤ 1
 el : t.el.length ≤ 1 ∧ ∀ x ∈ t.el,b x = true
theorem partsB_has {b : Ty → Bool} {ch : Bool} {l : List (Pt Ty)} (h : partsB b ch l = true) : l.length ≤ 256 ∧ ∀ p ∈ l,b p.t = true ∧ p.d.length ≤ 1 := by
 unfold partsB at h
 rw [Bool.and_eq_true,decide_eq_true_iff,List.all_eq_true] at h
 refine ⟨h.1,fun p hp => ?_⟩
 have := h.2 p hp
 unfold partB at this
 simp only [Bool.and_eq_true,Bool.not_eq_true',decide_eq_false_iff_not] at this
 exact ⟨this.2,by omega⟩
theorem no_len {α : Type} {l : List α} {n : Nat} {Q : α → Prop} (h : ¬ 0 < l.length) : l.length ≤ n ∧ ∀ p ∈ l,Q p := by
 obtain rfl := List.length_eq_zero_iff.1 (show l.length = 0 by omega)
 exact ⟨Nat.zero_le _,fun p hp => by cases hp⟩
theorem wordsB_len {l : List ByteArray} (h : wordsB l = true) : l.length ≤ 256 := by
 unfold wordsB at h
 rw [Bool.and_eq_true,decide_eq_true_iff] at h
 exact h.1
theorem shaped_has {b : Ty → Bool} {t : Ty} (h : shapedS b t = true) : Has b t := by
 unfold shapedS at h
 rw [Bool.and_eq_true] at h
 obtain ⟨hc,h⟩ := h
 simp only [fNs,fMo,fPs,fAd,fEl] at h
 by_cases k1 : t.k = 1 ∨ t.k = 4
 ·rw [if_pos k1] at h
  simp only [Bool.and_eq_true,Bool.not_eq_true',decide_eq_false_iff_not] at h
  exact ⟨hc,by omega,by omega,no_len h.1.1.2,no_len h.1.2,no_len h.2⟩
 rw [if_neg k1] at h
 by_cases k2 : t.k = 2 ∨ t.k = 5 ∨ t.k = 6
 ·rw [if_pos k2] at h
  simp only [Bool.and_eq_true,Bool.not_eq_true',decide_eq_false_iff_not] at h
  exact ⟨hc,by omega,by omega,no_len h.1.1.1.2,no_len h.1.1.2,no_len h.1.2⟩
 rw [if_neg k2] at h
 by_cases k7 : t.k = 7
 ·rw [if_pos k7] at h
  simp only [Bool.and_eq_true,Bool.not_eq_true',decide_eq_false_iff_not] at h
  exact ⟨hc,by omega,by omega,no_len h.1.1.1.1.1.2,no_len h.1.1.1.1.2,no_len h.1.1.1.2⟩
 rw [if_neg k7] at h
 by_cases k3 : t.k = 3
 ·rw [if_pos k3] at h
  simp only [Bool.and_eq_true,Bool.not_eq_true',decide_eq_false_iff_not] at h
  exact ⟨hc,wordsB_len h.1.2,wordsB_len h.2,no_len h.1.1.1.1.2,no_len h.1.1.1.2,no_len h.1.1.2⟩
 rw [if_neg k3] at h
 by_cases k8 : t.k = 8
 ·rw [if_pos k8] at h
  simp only [Bool.and_eq_true,Bool.not_eq_true',decide_eq_false_iff_not] at h
  exact ⟨hc,by omega,by omega,partsB_has h.1.2,partsB_has h.2,no_len h.1.1.2⟩
 rw [if_neg k8] at h
 by_cases k10 : t.k = 10
 ·rw [if_pos k10] at h
  simp only [Bool.and_eq_true,Bool.not_eq_true',decide_eq_false_iff_not] at h
  exact ⟨hc,by omega,by omega,partsB_has h.1.2,partsB_has h.2,no_len h.1.1.2⟩
 rw [if_neg k10] at h
 by_cases k9 : t.k = 9
 ·rw [if_pos k9] at h
  simp only [Bool.and_eq_true,Bool.not_eq_true',decide_eq_false_iff_not,decide_eq_true_eq,List.all_eq_true] at h
  exact ⟨hc,by omega,by omega,no_len h.1.1.1.1.1.2,no_len h.1.1.1.1.2,by omega,h.2⟩
 rw [if_neg k9] at h
 simp only [Bool.and_eq_true,Bool.not_eq_true',decide_eq_false_iff_not] at h
 exact ⟨hc,by omega,by omega,no_len h.1.1.1.2,no_len h.1.1.2,no_len h.1.2⟩
theorem reps_put {α : Type} {K : α → List Value → Prop} {sz : Nat} {l : List α} {xs cs : List Value} {j : Nat} {x : α} (h : Reps K sz l xs) (hj : j < l.length) (hc : K x cs) (hl : cs.length = sz) : Reps K sz (l.set j x) (xs.take (j * sz) ++ cs ++ xs.drop (j * sz + cs.length)) := by
 have hle : j * sz + sz ≤ xs.length := by rw [h.1, ← Nat.succ_mul]; exact Nat.mul_le_mul_right _ hj
 have hA : (xs.take (j * sz) ++ cs).length = j * sz + sz := by rw [List.length_append,List.length_take]; omega
 have ht : (xs.take (j * sz)).length = j * sz := by rw [List.length_take]; omega
 refine ⟨by rw [List.length_append,hA,List.length_drop,hl,List.length_set, ← h.1]; omega,fun k p hp => ?_⟩
 rcases Nat.lt_trichotomy k j with hk | hk | hk
 ·have hkle : k * sz + sz ≤ j * sz := by rw [← Nat.succ_mul]; exact Nat.mul_le_mul_right _ hk
  have e : ((xs.take (j * sz) ++ cs ++ xs.drop (j * sz + cs.length)).drop (k * sz)).take sz = (xs.drop (k * sz)).take sz := by
   rw [List.append_assoc,List.drop_append_of_le_length (by omega),List.take_append_of_le_length (by rw [List.length_drop]; omega),List.drop_take,List.take_take,Nat.min_eq_left (by omega)]
  rw [e]
  rw [List.getElem?_set_ne (by omega)] at hp
  exact h.2 k p hp
 ·subst hk
  rw [List.getElem?_set_self hj] at hp
  cases hp
  have e : ((xs.take (k * sz) ++ cs ++ xs.drop (k * sz + cs.length)).drop (k * sz)).take sz = cs := by
   rw [List.append_assoc,List.drop_append_of_le_length (by omega),List.drop_of_length_le (by omega),List.nil_append,List.take_append_of_le_length (by omega),List.take_of_length_le (by omega)]
  rw [e]
  exact hc
 ·have hkle : j * sz + sz ≤ k * sz := by rw [← Nat.succ_mul]; exact Nat.mul_le_mul_right _ hk
  have e : ((xs.take (j * sz) ++ cs ++ xs.drop (j * sz + cs.length)).drop (k * sz)).take sz = (xs.drop (k * sz)).take sz := by
   rw [List.drop_append,hA,List.drop_of_length_le (show (xs.take (j * sz) ++ cs).length ≤ k * sz by rw [hA]; exact hkle),List.nil_append,List.drop_drop]
   congr 2
   omega
  rw [e]
  rw [List.getElem?_set_ne (by omega)] at hp
  exact h.2 k p hp
theorem set_next {α : Type} {y l : List α} {j : Nat} {a : α} (x : α) (hy : y.length = j) (hj : l[j]? = some a) : (y ++ l.drop j).set j x = (y ++ [x]) ++ l.drop (j + 1) := by
 have hjl := (List.getElem?_eq_some_iff.1 hj).1
 rw [List.drop_eq_getElem_cons hjl,List.set_append_right _ _ (by omega),hy,Nat.sub_self,List.set_cons_zero,List.append_assoc,List.singleton_append]
theorem two_stores {xs ts : List Value} {o : Nat} {a b c : Value} (hle : o + 18 ≤ xs.length) (ht : ts.length = 15) (ha : xs[o]? = some a) (hb : xs[o + 16]? = some b) :
  ((xs.take (o + 1) ++ ts ++ xs.drop (o + 1 + ts.length)).take (o + 17) ++ [c] ++ (xs.take (o + 1) ++ ts ++ xs.drop (o + 1 + ts.length)).drop (o + 17 + [c].length)) = xs.take o ++ ([a] ++ (ts ++ [b,c])) ++ xs.drop (o + 18) := by
 have e1 : xs.take (o + 1) = xs.take o ++ [a] := by rw [List.take_add_one,ha]; rfl
 have e2 : xs.drop (o + 1 + ts.length) = b :: xs.drop (o + 17) := by
  rw [ht,List.drop_eq_getElem_cons (by omega)]
  congr 1
  rw [List.getElem?_eq_getElem (by omega)] at hb
  exact Option.some.inj hb
 have h0 : (xs.take o).length = o := by rw [List.length_take]; omega
 have e3 : xs.drop (o + 17) = xs.drop (o + 17) := rfl
 rw [e1,e2]
 have hL : (xs.take o ++ [a] ++ ts ++ [b]).length = o + 17 := by simp [h0,ht]
 have e4 : xs.take o ++ [a] ++ ts ++ b :: xs.drop (o + 17) = (xs.take o ++ [a] ++ ts ++ [b]) ++ xs.drop (o + 17) := by simp
 rw [e4,List.take_left' hL,List.length_singleton, ← List.drop_drop,List.drop_left' hL,List.drop_drop]
 simp
end Go.Proofs.YtbjddomocggjmaaGreat.Sc
end
