/- Schemas in memory: what a parameter reads as, and how long its lists and texts may be. -/
import Derived.ProofKit
import Derived.OpenShut
import Derived.ShutString
import Derived.ChangeOld
import Derived.SizedLaws
import Derived.Deep.Slices
import Derived.KernelRfl
import Derived.Lib.Hide
import Derived.Test.YtbjddomocggjmaaGreatLA
import Derived.Test.YtbjddomocggjmaaGreatLB
section
namespace Go.Proofs.YtbjddomocggjmaaGreat.Open
open Go.ChangeShapes Go.WideShapes Go.ChangeAt Go.RowKit Go.Proofs.YtbjddomocggjmaaGreat.Sep
theorem wf_i64 {n : Int} (h : (Lit.int .i64 n).wf = true) : -9223372036854775808 ≤ n ∧ n ≤ 9223372036854775807 := by
 simp [Lit.wf,IntKind.min,IntKind.max,IntKind.bits,IntKind.signed] at h
 omega
def SliceOf {α : Type} (K : World → List Value → α → Prop) (size : Nat) (W : World) (v : Value) (xs : List α) : Prop :=
 ∃ A c,v = .slice A xs.length c ∧ xs.length ≤ c ∧ c ≤ maxLen ∧ ∀ k x,xs[k]? = some x → ∃ g off cs,A = some ⟨g,off,none⟩ ∧ cs.length = size ∧ (∀ i u,cs[i]? = some u → W.cell? ⟨g,off + k * size + i,none⟩ = some u) ∧ K W cs x
theorem add_at (g off n : Nat) : (⟨g,off,none⟩ : Addr).add n = ⟨g,off + n,none⟩ := by unfold Addr.add; split <;> simp_all
theorem cell_spot {W : World} {a : Addr} {v : Value} (h : W.cell? a = some v) : a.spot = none := by
 unfold World.cell? at h
 split at h
 ·split at h
  ·cases h
  ·rename_i hs
   simpa using hs
 ·cases h
end Go.Proofs.YtbjddomocggjmaaGreat.Open
end
section
namespace Go.Proofs.YtbjddomocggjmaaGreat.Sc
open Go.RowKit Go.ChangeShapes Go.WideShapes Go.Proofs.YtbjddomocggjmaaGreat.Open Go.Proofs.YtbjddomocggjmaaGreat.Sep Go.Proofs.YtbjddomocggjmaaGreatW.PrintWords
def M : Nat := 140737488355328
theorem reach_M : reachBytes + 4096 = M := rfl
def i64 (x : Int) : Prop := -9223372036854775808 ≤ x ∧ x ≤ 9223372036854775807
section
variable {H : Type} {P : Program}
theorem weights_all_mem {e : TypeId} {l : List (DataW H)} {d : DataW H} (h : d ∈ l) : ∀ n ∈ d.weights P e,n ∈ DataW.weightsAll P e l := by
 induction l with
 | nil => cases h
 | cons x l ih =>
  intro n hn
  simp only [DataW.weightsAll,List.mem_append]
  rcases List.mem_cons.1 h with rfl | h
  ·exact .inl hn
  ·exact .inr (ih h n hn)
theorem all_sub {l m : List Nat} (h : m.all (· ≤ reachBytes) = true) (hs : ∀ n ∈ l,n ∈ m) : l.all (· ≤ reachBytes) = true :=
 List.all_eq_true.2 fun n hn => List.all_eq_true.1 h n (hs n hn)
theorem weights_field {t : TypeId} {fs : Array Field} {xs : List (DataW H × List MemPlace)} (ht : P.underlying t = some (.struct fs)) (hw : ((DataW.agg (xs.map (·.1))).weights P t).all (· ≤ reachBytes) = true) (i : Nat) (f : Field) (hf : fs[i]? = some f) (y : DataW H × List MemPlace) (hy : xs[i]? = some y) {T : TypeId} (hT : f.type = T) :
  (y.1.weights P T).all (· ≤ reachBytes) = true := by
 subst hT
 simp only [DataW.weights,ht] at hw
 refine all_sub hw fun n hn => DataW.weights_mem_each (j := i) (t := f.type) (d := y.1) ?_ ?_ n hn
 ·rw [List.getElem?_map,Array.getElem?_toList,hf]; rfl
 ·rw [List.getElem?_map,hy]; rfl
variable {enc : TypeId × Value → H} {W : World} {base : Nat} {spare : Nat → Bool} {held : Bool}
theorem open_fieldW {t : TypeId} {fs : Array Field} {m : Nat} {cs : List Value} {xs : List (DataW H × List MemPlace)} (ht : P.underlying t = some (.struct fs))
  (hx : ∀ (i : Nat) (f : Field),fs[i]? = some f → DataW.trod enc P W base spare held m f.type ((cs.drop f.offset).take (P.cellsOf f.type)) = xs[i]?) (hl : xs.length = fs.size)
  (hw : ((DataW.agg (xs.map (·.1))).weights P t).all (· ≤ reachBytes) = true)
  (i : Nat) (f : Field) (hf : fs[i]? = some f) {T n : Nat} (hT : f.type = T) (hn : P.cellsOf T = n) : ∃ y,DataW.trod enc P W base spare held m T ((cs.drop f.offset).take n) = some y ∧ (y.1.weights P T).all (· ≤ reachBytes) = true := by
 have hi : i < xs.length := by rw [hl]; exact (Array.getElem?_eq_some_iff.1 hf).1
 have hw2 := weights_field ht hw i f hf xs[i] (List.getElem?_eq_getElem hi) hT
 subst hT hn
 exact ⟨xs[i],(hx i f hf).trans (List.getElem?_eq_getElem hi),hw2⟩
theorem open_listW {t e : TypeId} {size Bt : Nat} {α : Type} [Inhabited α] {K : World → List Value → α → Prop}
  (ht : P.underlying t = some (.slice e)) (hC : P.cellsOf e = size) (hs : 0 < size) (hB : P.bytesOf e = Bt) {fuel : Nat} (hK : ∀ n,n < fuel → ∀ cs y,cs.length = size → DataW.trod enc P W base spare held n e cs = some y → (y.1.weights P e).all (· ≤ reachBytes) = true → ∃ a,K W cs a) {v : Value} {x : DataW H × List MemPlace}
  (h : DataW.trod enc P W base spare held fuel t [v] = some x) (hw : (x.1.weights P t).all (· ≤ reachBytes) = true) : ∃ xs,SliceOf K size W v xs ∧ xs.length * Bt ≤ M := by
 rcases DataW.trod_slice ht h with ⟨hcs,_⟩ | ⟨a,len,cap,elems,rest,n,hn,hcs,hxe,_,hl,hm,hlen,hel,_,_⟩
 ·simp only [List.cons.injEq,and_true] at hcs
  subst hcs
  exact ⟨[],⟨none,0,rfl,Nat.le_refl _,Nat.zero_le _,fun k x hx => by simp at hx⟩,by simp⟩
 ·simp only [List.cons.injEq,and_true] at hcs
  subst hcs hxe
  simp only [DataW.weights,ht,List.all_cons,Bool.and_eq_true,decide_eq_true_eq,List.length_map,hB] at hw
  obtain ⟨hw1,hw2⟩ := hw
  have hat : ∀ k,k < len → ∃ cs y,W.cells? base (a.add (k * size)) size = some cs ∧ DataW.trod enc P W base spare held n e cs = some y ∧ (y.1.weights P e).all (· ≤ reachBytes) = true := by
   intro k hk
   have h1 := hel k hk
   rw [hC] at h1
   have hk2 : k < elems.length := by omega
   have h2 : elems[k]? = some (elems[k]'hk2) := List.getElem?_eq_getElem hk2
   rw [h2,Option.bind_eq_some_iff] at h1
   obtain ⟨cs,h3,h4⟩ := h1
   refine ⟨cs,_,h3,h4,all_sub hw2 fun q hq => List.mem_append_left _ (weights_all_mem (List.mem_map.2 ⟨elems[k],List.getElem_mem hk2,rfl⟩) q hq)⟩
  have hget : ∀ k, ∃ z : α,k < len → ∃ cs,W.cells? base (a.add (k * size)) size = some cs ∧ K W cs z := by
   intro k
   by_cases hk : k < len
   ·obtain ⟨cs,y,h1,h2,h3⟩ := hat k hk
    obtain ⟨z,hz⟩ := hK n (by omega) cs y (World.cells?_some h1).2.1 h2 h3
    exact ⟨z,fun _ => ⟨cs,h1,hz⟩⟩
   ·exact ⟨default,fun h => absurd h hk⟩
  have hsp : 0 < len → a.spot = none := by
   intro h0
   obtain ⟨cs,y,h1,h2,_⟩ := hat 0 h0
   obtain ⟨_,h3,h4⟩ := World.cells?_some h1
   have h5 := h4 0 hs
   rw [Nat.zero_mul,List.getElem?_eq_getElem (by omega)] at h5
   exact cell_spot h5
  refine ⟨(List.range len).map fun k => (hget k).choose,⟨some a,cap,by simp,by simpa using hl,hm,fun k z hz => ?_⟩, ?_⟩
  ·have hk : k < len := by
    have := (List.getElem?_eq_some_iff.1 hz).1
    simpa using this
   have hz2 : (hget k).choose = z := by
    rw [List.getElem?_map,List.getElem?_range hk] at hz
    simpa using hz
   obtain ⟨cs,h1,h2⟩ := (hget k).choose_spec hk
   rw [hz2] at h2
   obtain ⟨_,h3,h4⟩ := World.cells?_some h1
   have hae : a = ⟨a.block,a.off,none⟩ := by
    have := hsp (by omega)
    cases a
    simp_all
   rw [hae] at h4 ⊢
   refine ⟨a.block,a.off,cs,rfl,h3,fun i u hu => ?_,h2⟩
   have h5 := h4 i (by have := (List.getElem?_eq_some_iff.1 hu).1; omega)
   rw [Open.add_at,Open.add_at] at h5
   rw [h5,hu]
  ·simp only [List.length_map,List.length_range]
   have : len * Bt ≤ (elems.length + rest.length) * Bt := Nat.mul_le_mul_right _ (by omega)
   have := reach_M
   omega
theorem open_strW {t : TypeId} {cs : List Value} {fuel : Nat} {x : DataW H × List MemPlace} (ht : P.underlying t = some .string) (h : DataW.trod enc P W base spare held fuel t cs = some x) (hw : (x.1.weights P t).all (· ≤ reachBytes) = true) : ∃ s : ByteArray,cs = [.string s] ∧ s.size ≤ M := by
 obtain ⟨s,h1,h2,_⟩ := DataW.trod_string ht h
 subst h2
 simp only [DataW.weights,List.all_cons,List.all_nil,Bool.and_true] at hw
 have hw2 := of_decide_eq_true hw
 have h3 : s.size ≤ reachBytes := by simpa using hw2
 have h4 := reach_M
 exact ⟨s,h1,by omega⟩
end
theorem c_of_slice {α : Type} {d : Kd α} {Ok : α → Prop} {size : Nat} {W : World} {A : Option Addr} {n cap : Nat} {l : List α} (hsz : d.sz = size) (h : SliceOf (fun W cs x => d.K W x cs ∧ Ok x) size W (.slice A n cap) l) : n = l.length ∧ l.length ≤ cap ∧ cap ≤ maxLen ∧ d.C W A l.length l ∧ ∀ x ∈ l,Ok x := by
 obtain ⟨A',c',h1,h2,h3,h4⟩ := h
 simp only [Value.slice.injEq] at h1
 obtain ⟨rfl,rfl,rfl⟩ := h1
 refine ⟨rfl,h2,h3,⟨rfl,by simp only [maxLen] at h3; omega,fun hn => ?_⟩,fun x hx => ?_⟩
 ·obtain ⟨g,off,_,rfl,_⟩ := h4 0 _ (List.getElem?_eq_getElem hn)
  refine ⟨_,rfl,fun j p hp => ?_⟩
  obtain ⟨g',off',cs,e,h5,h6,h7,_⟩ := h4 j p hp
  simp only [Option.some.injEq,Addr.mk.injEq,and_true] at e
  obtain ⟨rfl,rfl⟩ := e
  refine ⟨cs,h5.trans hsz.symm,h7,fun i u hu => ?_⟩
  rw [Open.add_at,hsz]
  have := h6 i u hu
  rwa [Nat.add_assoc] at this
 ·obtain ⟨k,hk⟩ := List.getElem?_of_mem hx
  obtain ⟨_,_,_,_,_,_,_,h8⟩ := h4 k x hk
  exact h8
theorem len2 {α : Type} {l : List α} (h : l.length = 2) : ∃ a b,l = [a,b] := by
 match l,h with
 | [a,b],_ => exact ⟨a,b,rfl⟩
theorem len5 {α : Type} {l : List α} (h : l.length = 5) : ∃ a b c d e,l = [a,b,c,d,e] := by
 match l,h with
 | [a,b,c,d,e],_ => exact ⟨a,b,c,d,e,rfl⟩
theorem len4 {α : Type} {l : List α} (h : l.length = 4) : ∃ a b c d,l = [a,b,c,d] := by
 match l,h with
 | [a,b,c,d],_ => exact ⟨a,b,c,d,rfl⟩
abbrev Con := PScopeResolves.S33
abbrev Val := PScopeResolves.S109
abbrev Im := PScopeResolves.S50
abbrev kCon : Kd Con := PScopeResolves.k33
abbrev kVal : Kd Val := PScopeResolves.k109
abbrev kIm : Kd Im := PScopeResolves.k50
abbrev kStrs : Kd (List ByteArray) := Kd.slice 9 Kd.string
structure Pt (τ : Type) where
 n : ByteArray
 t : τ
 o : Bool
 d : List Val
structure Ty where
 k : Int
 n : ByteArray
 c : Con
 e : Bool
 fr : ByteArray
 ns : List ByteArray
 mo : List ByteArray
 ps : List (Pt Ty)
 ad : List (Pt Ty)
 el : List Ty
structure Df where
 n : ByteArray
 t : Ty
structure Md where
 n : ByteArray
 au : Bool
 im : List Im
 df : List Df
structure En where
 m : ByteArray
 n : ByteArray
 au : Bool
 t : Ty
def zCon : Con := ⟨0,0,0,false,false,[]⟩
def zTy : Ty := ⟨0,⟨#[]⟩,zCon,false,⟨#[]⟩,[],[],[],[],[]⟩
def zPt : Pt Ty := ⟨⟨#[]⟩,zTy,false,[]⟩
def zDf : Df := ⟨⟨#[]⟩,zTy⟩
def zMd : Md := ⟨⟨#[]⟩,false,[],[]⟩
def zEn : En := ⟨⟨#[]⟩,⟨#[]⟩,false,zTy⟩
def zVal : Val := ⟨0,0,⟨#[]⟩,[],[]⟩
def zIm : Im := ⟨[],⟨#[]⟩⟩
instance : Inhabited Con := ⟨zCon⟩
instance : Inhabited Val := ⟨zVal⟩
instance : Inhabited Im := ⟨zIm⟩
instance : Inhabited Ty := ⟨zTy⟩
instance : Inhabited (Pt Ty) := ⟨zPt⟩
instance : Inhabited Df := ⟨zDf⟩
instance : Inhabited Md := ⟨zMd⟩
instance : Inhabited En := ⟨zEn⟩
instance : Inhabited ByteArray := ⟨⟨#[]⟩⟩
def FPt (d : Kd Ty) : Kd (Pt Ty) := Kd.iso (Kd.pair Kd.string (Kd.pair d (Kd.pair Kd.bool (Kd.slice 109 kVal)))) (fun x : Pt Ty => (x.n,x.t,x.o,x.d))
def FTy (d : Kd Ty) : Kd Ty := Kd.iso (Kd.pair (Kd.int .i64) (Kd.pair Kd.string (Kd.pair kCon (Kd.pair Kd.bool (Kd.pair Kd.string (Kd.pair kStrs (Kd.pair kStrs (Kd.pair (Kd.slice 83 (FPt d)) (Kd.pair (Kd.slice 83 (FPt d)) (Kd.slice 38 d)))))))))) (fun x : Ty => (x.k,x.n,x.c,x.e,x.fr,x.ns,x.mo,x.ps,x.ad,x.el))
theorem monoPt : Kd.Mono FPt := Kd.mono_iso _ (Kd.mono_pair (Kd.mono_const _) (Kd.mono_pair Kd.mono_id (Kd.mono_pair (Kd.mono_const _) (Kd.mono_const _))))
theorem monoTy : Kd.Mono FTy := Kd.mono_iso _ (Kd.mono_pair (Kd.mono_const _) (Kd.mono_pair (Kd.mono_const _) (Kd.mono_pair (Kd.mono_const _) (Kd.mono_pair (Kd.mono_const _) (Kd.mono_pair (Kd.mono_const _) (Kd.mono_pair (Kd.mono_const _) (Kd.mono_pair (Kd.mono_const _) (Kd.mono_pair (Kd.mono_slice 83 monoPt) (Kd.mono_pair (Kd.mono_slice 83 monoPt) (Kd.mono_slice 38 Kd.mono_id))))))))))
def eTy : List Nat := [9,33,38,83,109]
theorem subPt : Kd.Sub FPt eTy := Kd.sub_iso _ (Kd.sub_pair (Kd.sub_const _ (by decide)) (Kd.sub_pair Kd.sub_id (Kd.sub_pair (Kd.sub_const _ (by decide)) (Kd.sub_const _ (by decide)))))
theorem subTy : Kd.Sub FTy eTy := Kd.sub_iso _ (Kd.sub_pair (Kd.sub_const _ (by decide)) (Kd.sub_pair (Kd.sub_const _ (by decide)) (Kd.sub_pair (Kd.sub_const _ (by decide)) (Kd.sub_pair (Kd.sub_const _ (by decide)) (Kd.sub_pair (Kd.sub_const _ (by decide)) (Kd.sub_pair (Kd.sub_const _ (by decide)) (Kd.sub_pair (Kd.sub_const _ (by decide)) (Kd.sub_pair (Kd.sub_slice 83 (by decide) subPt) (Kd.sub_pair (Kd.sub_slice 83 (by decide) subPt) (Kd.sub_slice 38 (by decide) Kd.sub_id))))))))))
theorem szTy : ∀ n,(Kd.upto FTy 15 eTy n).sz = 15 := Kd.upto_sz (fun _ => rfl)
def kTy : Kd Ty := Kd.fix FTy 15 eTy szTy (Kd.upto_E subTy)
def kPt : Kd (Pt Ty) := FPt kTy
def kDf : Kd Df := Kd.iso (Kd.pair Kd.string kTy) (fun x : Df => (x.n,x.t))
def kMd : Kd Md := Kd.iso (Kd.pair Kd.string (Kd.pair Kd.bool (Kd.pair (Kd.slice 50 kIm) (Kd.slice 40 kDf)))) (fun x : Md => (x.n,x.au,x.im,x.df))
def kEn : Kd En := Kd.iso (Kd.pair Kd.string (Kd.pair Kd.string (Kd.pair Kd.bool kTy))) (fun x : En => (x.m,x.n,x.au,x.t))
end Go.Proofs.YtbjddomocggjmaaGreat.Sc
end
