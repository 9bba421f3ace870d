/- What Resolve answers, plain: its parts. -/
import Derived.Test.YtbjddomocggjmaaGreatLC
import Derived.Test.YtbjddomocggjmaaGreatLR
import Derived.Test.YtbjddomocggjmaaGreatLZ
section
namespace Go.Proofs.YtbjddomocggjmaaGreat.Sc
def emptyB (c : Con) : Bool := if c.f0 = 0 then true else if c.f0 = 1 then c.f3 || (decide (c.f1 ≤ 0) && (c.f4 || decide (c.f2 ≥ 0))) else false
def finT (K : List UInt8 → Bool) : Nat → Ty → Bool
 | 0,_ => true
 | n + 1,t => if t.k = 11 then K t.n.data.toList else if t.k = 9 then emptyB t.c || (decide (t.el.length = 1) && t.el.all (finT K n))
  else if t.k = 8 then !(t.ps.any fun p => !p.o && decide (p.d.length = 0) && !finT K n p.t)
  else if t.k = 10 then t.ps.any fun p => finT K n p.t else true
theorem finT_mono {K K' : List UInt8 → Bool} (h : ∀ s,K s = true → K' s = true) : ∀ (n : Nat) (t : Ty),finT K n t = true → finT K' n t = true
 | 0,_,h1 => h1
 | n + 1,t,h1 => by
  unfold finT at h1 ⊢
  by_cases k1 : t.k = 11
  ·rw [if_pos k1] at h1 ⊢; exact h _ h1
  rw [if_neg k1] at h1 ⊢
  by_cases k2 : t.k = 9
  ·rw [if_pos k2] at h1 ⊢
   simp only [Bool.or_eq_true,Bool.and_eq_true,List.all_eq_true] at h1 ⊢
   exact h1.imp id fun ⟨h2,h3⟩ => ⟨h2,fun x hx => finT_mono h n x (h3 x hx)⟩
  rw [if_neg k2] at h1 ⊢
  by_cases k3 : t.k = 8
  ·rw [if_pos k3] at h1 ⊢
   simp only [Bool.not_eq_true',List.any_eq_false] at h1 ⊢
   intro p hp h2
   refine h1 p hp ?_
   simp only [Bool.and_eq_true,Bool.not_eq_true'] at h2 ⊢
   refine ⟨h2.1, ?_⟩
   rw [Bool.eq_false_iff]
   intro h3
   rw [finT_mono h n p.t h3] at h2
   exact absurd h2.2 (by simp)
  rw [if_neg k3] at h1 ⊢
  by_cases k4 : t.k = 10
  ·rw [if_pos k4] at h1 ⊢
   simp only [List.any_eq_true] at h1 ⊢
   obtain ⟨p,hp,h2⟩ := h1
   exact ⟨p,hp,finT_mono h n p.t h2⟩
  rw [if_neg k4]
def dotB (a b : ByteArray) : ByteArray := a ++ ⟨#[46]⟩ ++ b
def enNm (x : En) : List UInt8 := (dotB x.m x.n).data.toList
structure Fst where
 known : List (List UInt8)
 first : List (List UInt8)
 left : Nat
 grows : Bool
def stepF (s : Fst) (x : En) : Fst :=
 let again := s.first.contains (enNm x)
 let fin := finT s.known.contains 40 x.t
 if (again && fin || s.known.contains (enNm x) && !again) = true then { s with first := s.first ++ [enNm x] }
 else if (!again && fin) = true then ⟨s.known ++ [enNm x],s.first ++ [enNm x],s.left,true⟩
 else { s with first := s.first ++ [enNm x],left := s.left + 1 }
def roundF (K : List (List UInt8)) (l : List En) : Fst := l.foldl stepF ⟨K,[],0,false⟩
def finLoop : Nat → List (List UInt8) → List En → Bool
 | 0,_,_ => false
 | n + 1,K,l => if (roundF K l).grows = true then finLoop n (roundF K l).known l else decide ((roundF K l).left = 0)
def finB (l : List En) : Bool := finLoop (l.length + 1) [] l
def FinS (l : List En) : Prop := ∀ K : List UInt8 → Bool,(∀ x ∈ l,finT K 40 x.t = true → K (enNm x) = true) → ∀ x ∈ l,K (enNm x) = true
structure Rd (l0 : List En) (K0 : List (List UInt8)) (p : List En) (s : Fst) : Prop where
 first : s.first = p.map enNm
 more : ∀ k ∈ K0,k ∈ s.known
 nodup : s.known.Nodup
 sub : ∀ k ∈ s.known,k ∈ K0 ∨ ∃ x ∈ p,enNm x = k
 sound : ∀ K : List UInt8 → Bool,(∀ x ∈ l0,finT K 40 x.t = true → K (enNm x) = true) → (∀ k ∈ K0,K k = true) → ∀ k ∈ s.known,K k = true
 still : s.grows = false → s.known = K0 ∧ (s.left = 0 ↔ ∀ x ∈ p,enNm x ∈ K0) ∧ ∀ x ∈ p,finT K0.contains 40 x.t = true → enNm x ∈ K0
 grew : s.grows = true → K0.length < s.known.length
 len : K0.length ≤ s.known.length
theorem rd_step {l0 : List En} {K0 : List (List UInt8)} {p : List En} {s : Fst} {x : En} (h : Rd l0 K0 p s) (hx : x ∈ l0) (hn : enNm x ∉ p.map enNm) : Rd l0 K0 (p ++ [x]) (stepF s x) := by
 have ha : s.first.contains (enNm x) = false := by
  rw [h.first,Bool.eq_false_iff]
  intro hc
  exact hn (List.contains_iff_mem.1 hc)
 have e1 : s.first ++ [enNm x] = (p ++ [x]).map enNm := by rw [h.first,List.map_append]; rfl
 unfold stepF
 simp only [ha,Bool.false_and,Bool.false_or,Bool.not_false,Bool.and_true,Bool.true_and]
 have hsub : ∀ k ∈ s.known,k ∈ K0 ∨ ∃ y ∈ p ++ [x],enNm y = k := fun k hk => (h.sub k hk).imp id fun ⟨y,hy,e⟩ => ⟨y,List.mem_append_left _ hy,e⟩
 by_cases h1 : s.known.contains (enNm x) = true
 ·rw [if_pos h1]
  have hm := List.contains_iff_mem.1 h1
  refine ⟨e1,h.more,h.nodup,hsub,h.sound,fun hg => ?_,h.grew,h.len⟩
  obtain ⟨h2,h3,h4⟩ := h.still hg
  rw [h2] at hm
  refine ⟨h2,h3.trans ⟨fun hh y hy => ?_,fun hh y hy => hh y (List.mem_append_left _ hy)⟩,fun y hy hf => ?_⟩
  ·rcases List.mem_append.1 hy with hy | hy
   ·exact hh y hy
   ·rw [List.mem_singleton.1 hy]; exact hm
  ·rcases List.mem_append.1 hy with hy | hy
   ·exact h4 y hy hf
   ·rw [List.mem_singleton.1 hy]; exact hm
 ·rw [if_neg h1]
  have hm : enNm x ∉ s.known := fun hh => h1 (List.contains_iff_mem.2 hh)
  by_cases h5 : finT s.known.contains 40 x.t = true
  ·rw [if_pos h5]
   refine ⟨e1,fun k hk => List.mem_append_left _ (h.more k hk), ?_,fun k hk => ?_,fun K hK h0 k hk => ?_,(fun hg => (by cases hg)),fun _ => ?_, ?_⟩
   ·rw [List.nodup_append]
    refine ⟨h.nodup,by simp,fun a ha b hb => ?_⟩
    rw [List.mem_singleton.1 hb]
    rintro rfl
    exact hm ha
   ·rcases List.mem_append.1 hk with hk | hk
    ·exact hsub k hk
    ·exact .inr ⟨x,by simp,(List.mem_singleton.1 hk).symm⟩
   ·rcases List.mem_append.1 hk with hk | hk
    ·exact h.sound K hK h0 k hk
    ·rw [List.mem_singleton.1 hk]
     exact hK x hx (finT_mono (fun k hk => h.sound K hK h0 k (List.contains_iff_mem.1 hk)) 40 x.t h5)
   ·have := h.len
    rw [List.length_append,List.length_singleton]
    omega
   ·have := h.len
    rw [List.length_append,List.length_singleton]
    omega
  ·rw [if_neg h5]
   refine ⟨e1,h.more,h.nodup,hsub,h.sound,fun hg => ?_,h.grew,h.len⟩
   obtain ⟨h2,h3,h4⟩ := h.still hg
   rw [h2] at hm h5
   refine ⟨h2,⟨fun hh => by simp at hh,fun hh => absurd (hh x (by simp)) hm⟩,fun y hy hf => ?_⟩
   rcases List.mem_append.1 hy with hy | hy
   ·exact h4 y hy hf
   ·rw [List.mem_singleton.1 hy] at hf
    exact absurd hf h5
theorem rd_fold {l0 : List En} {K0 : List (List UInt8)} : ∀ (q p : List En) (s : Fst),(∀ x ∈ q,x ∈ l0) → ((p ++ q).map enNm).Nodup → Rd l0 K0 p s → Rd l0 K0 (p ++ q) (q.foldl stepF s)
 | [],p,s,_,_,h => by simpa using h
 | x :: q,p,s,hq,hn,h => by
  have hn2 : ((p ++ [x] ++ q).map enNm).Nodup := by simpa using hn
  have h1 := rd_step h (hq x (by simp)) (by
   rw [List.map_append,List.map_append,List.nodup_append] at hn2
   have := hn2.1
   rw [List.nodup_append] at this
   intro hm
   exact this.2.2 _ hm _ (by simp) rfl)
  have h2 := rd_fold q (p ++ [x]) (stepF s x) (fun y hy => hq y (by simp [hy])) hn2 h1
  simpa using h2
theorem rd_round {l : List En} (hn : (l.map enNm).Nodup) {K0 : List (List UInt8)} (h0 : K0.Nodup) : Rd l K0 l (roundF K0 l) :=
 rd_fold l [] _ (fun _ h => h) hn ⟨rfl,fun _ h => h,h0,fun _ h => .inl h,fun _ _ h => h,fun _ => ⟨rfl,by simp,by simp⟩,(fun h => (by cases h)),Nat.le_refl _⟩
theorem nodup_len {α : Type} [DecidableEq α] : ∀ {a b : List α},a.Nodup → (∀ x ∈ a,x ∈ b) → a.length ≤ b.length
 | [],_,_,_ => by simp
 | x :: a,b,hn,hs => by
  have hx : x ∈ b := hs x (by simp)
  obtain ⟨hxa,hna⟩ := List.nodup_cons.1 hn
  have h1 := nodup_len (b := b.erase x) hna fun y hy => by
   have hne : y ≠ x := fun e => hxa (e ▸ hy)
   exact (List.mem_erase_of_ne hne).2 (hs y (by simp [hy]))
  have h2 := List.length_erase_of_mem hx
  have h3 := List.length_pos_of_mem hx
  rw [List.length_cons]
  omega
theorem finLoop_iff {l : List En} (hn : (l.map enNm).Nodup) : ∀ (n : Nat) (K0 : List (List UInt8)),K0.Nodup → (∀ k ∈ K0, ∃ x ∈ l,enNm x = k) → l.length < n + K0.length →
  (∀ K : List UInt8 → Bool,(∀ x ∈ l,finT K 40 x.t = true → K (enNm x) = true) → ∀ k ∈ K0,K k = true) → (finLoop n K0 l = true ↔ FinS l)
 | 0,K0,h0,hs,hl,_ => by
  have := nodup_len h0 (b := l.map enNm) fun k hk => by obtain ⟨x,hx,e⟩ := hs k hk; exact List.mem_map.2 ⟨x,hx,e⟩
  rw [List.length_map] at this
  omega
 | n + 1,K0,h0,hs,hl,hb => by
  have h := rd_round hn h0
  unfold finLoop
  cases hg : (roundF K0 l).grows with
  | true =>
   rw [if_pos rfl]
   have h1 := h.grew hg
   refine finLoop_iff hn n _ h.nodup (fun k hk => ?_) (by omega) fun K hK => h.sound K hK (hb K hK)
   rcases h.sub k hk with h2 | h2
   ·exact hs k h2
   ·exact h2
  | false =>
   rw [if_neg (by simp)]
   obtain ⟨h2,h3,h4⟩ := h.still hg
   rw [decide_eq_true_iff,h3]
   refine ⟨fun hh K hK x hx => hb K hK _ (hh x hx),fun hf x hx => ?_⟩
   exact List.contains_iff_mem.1 (hf K0.contains (fun y hy hy2 => List.contains_iff_mem.2 (h4 y hy hy2)) x hx)
theorem finB_iff {l : List En} (hn : (l.map enNm).Nodup) : finB l = true ↔ FinS l :=
 finLoop_iff hn _ [] (by simp) (by simp) (by simp) (by simp)
end Go.Proofs.YtbjddomocggjmaaGreat.Sc
end
section
namespace Go.Proofs.YtbjddomocggjmaaGreat.Sc
open Go.RowKit
abbrev FM := List (List UInt8 × ByteArray)
def dfNames (m : Md) : List ByteArray := m.df.map fun d => d.n
def mdNames (l : List Md) : List ByteArray := l.map fun m => m.n
def ownP (m : Md) : FM := m.df.map fun d => (d.n.data.toList,dotB m.n d.n)
def ownHas (l : List Md) (fr s : ByteArray) : Bool := (l.find? fun m => m.n.data.toList == fr.data.toList).any fun m => (kys (dfNames m)).contains s.data.toList
def impN (h : ByteArray → ByteArray → Bool) (fr : ByteArray) : FM → List ByteArray → Option FM
 | fm,[] => some fm
 | fm,s :: r => if ((lookS fm s.data.toList).isSome || !h fr s) = true then none else impN h fr (fm ++ [(s.data.toList,dotB fr s)]) r
def impI (h : ByteArray → ByteArray → Bool) : FM → List Im → Option FM
 | fm,[] => some fm
 | fm,x :: r => (impN h x.f1 fm x.f0).bind fun fm' => impI h fm' r
def enOf (f : List UInt8 → Option ByteArray) (m : Md) (d : Df) : Option En := (typP f 40 d.t).map fun t => ⟨m.n,d.n,m.au,t⟩
def modP (h : ByteArray → ByteArray → Bool) (m : Md) : Option (List En) := (impI h (ownP m) m.im).bind fun fm => mapO (enOf (lookS fm) m) m.df
def allP (l : List Md) : Option (List En) := (mapO (modP (ownHas l)) l).map List.flatten
def badB (l : List Md) : Bool := decide (256 < l.length) || l.any fun m => !mdB m
def dupB (l : List Md) : Bool := !onceB (mdNames l) || l.any fun m => !onceB (dfNames m)
def resP (l : List Md) : Int × List En :=
 if badB l = true then (1,[]) else if dupB l = true then (7,[]) else match allP l with
  | none => (7,[])
  | some y => if finB y = true then (0,y) else (9,[])
theorem bad_false {l : List Md} : badB l = false ↔ l.length ≤ 256 ∧ ∀ m ∈ l,mdB m = true := by
 unfold badB
 rw [Bool.or_eq_false_iff,decide_eq_false_iff_not,List.any_eq_false]
 simp
theorem dup_false {l : List Md} : dupB l = false ↔ onceB (mdNames l) = true ∧ ∀ m ∈ l,onceB (dfNames m) = true := by
 unfold dupB
 rw [Bool.or_eq_false_iff,List.any_eq_false]
 simp
end Go.Proofs.YtbjddomocggjmaaGreat.Sc
end
