/- shape.Keyword, name, printable, rises, words: walked. -/
import Derived.Lib.ConvBytes
import Derived.Deep.QuietTactic
import Derived.BigQuiet
import Derived.IntWalk
import Derived.Lib.Strings
import Derived.Test.YtbjddomocggjmaaGreatLA
import Derived.Test.YtbjddomocggjmaaGreatLD
import Derived.Test.YtbjddomocggjmaaGreatLE
section
namespace Go.Proofs.YtbjddomocggjmaaGreat.Sc
open Go.RowKit Go.Proofs.YtbjddomocggjmaaGreat.Sep
variable {B : Nat} {w0 w : World} {R : HP}
def letterI (c : Int) : Bool := decide (97 ≤ c ∧ c ≤ 122 ∨ 65 ≤ c ∧ c ≤ 90)
def digitI (c : Int) : Bool := decide (48 ≤ c ∧ c ≤ 57)
theorem digit_calls (c : Int) (w : World) : Calls Tryz.prog 101 #[.int .u8 c] w fun e w' => e = .returned (.bool (digitI c)) ∧ w = w' := by
 by_cases h1 : 48 ≤ c
 ·have d1 : decide (48 ≤ c) = true := decide_eq_true h1
  have e : digitI c = decide (c ≤ 57) := by unfold digitI; rw [Bool.eq_iff_iff]; simp; omega
  rw [e]
  go_enter Tryz.func101,Tryz.ntmps101
  go_wp2
  go_ret
  exact ⟨rfl,rfl⟩
 ·have d1 : decide (48 ≤ c) = false := decide_eq_false h1
  have e : digitI c = false := by unfold digitI; simp; omega
  rw [e]
  go_enter Tryz.func101,Tryz.ntmps101
  go_wp2
  go_ret
  exact ⟨rfl,rfl⟩
theorem or32 : ∀ n : Fin 256,(decide (97 ≤ bits BinOp.or IntKind.u8 (n.val : Int) 32) && decide (bits BinOp.or IntKind.u8 (n.val : Int) 32 ≤ 122)) = letterI n.val := by decide +kernel
theorem or32_int (c : Int) (h0 : 0 ≤ c) (h1 : c < 256) : (decide (97 ≤ bits BinOp.or IntKind.u8 c 32) && decide (bits BinOp.or IntKind.u8 c 32 ≤ 122)) = letterI c := by
 have h := or32 ⟨c.toNat,by omega⟩
 have e : ((c.toNat : Nat) : Int) = c := by omega
 simp only [e] at h
 exact h
theorem letter_calls (c : Int) (h0 : 0 ≤ c) (h1 : c < 256) (w : World) : Calls Tryz.prog 88 #[.int .u8 c] w fun e w' => e = .returned (.bool (letterI c)) ∧ w = w' := by
 have HO := Lib.hid (or32_int c h0 h1)
 go_enter Tryz.func88,Tryz.ntmps88
 go_wp2
 ·have h : 97 ≤ bits BinOp.or IntKind.u8 c 32 := by assumption
  go_ret
  refine ⟨?_,rfl⟩
  rw [← HO.out,decide_eq_true h]
  rfl
 ·have h : bits BinOp.or IntKind.u8 c 32 < 97 := by assumption
  go_ret
  refine ⟨?_,rfl⟩
  rw [← HO.out,decide_eq_false (by omega)]
  rfl
def al (c : UInt8) : Bool := letterI c.toNat || digitI c.toNat
def restB : List UInt8 → Bool
 | [] => true
 | c :: r => if al c then restB r else if c = 45 then (match r with | [] => false | d :: _ => al d && restB r) else false
def wholeB : List UInt8 → Bool
 | [] => false
 | c :: r => letterI c.toNat && restB r
def headI (l : List UInt8) : Int := (l.headD 0).toNat
def lowerB (l : List UInt8) : Bool := wholeB l && decide (97 ≤ headI l)
def upperB (l : List UInt8) : Bool := wholeB l && decide (headI l < 97)
def pk (l : List UInt8) (k : Nat) : Int := ((l.getD k 0).toNat : Int)
theorem pk_bounds (l : List UInt8) (k : Nat) : 0 ≤ pk l k ∧ pk l k < 256 := by
 unfold pk
 have := (l.getD k 0).toNat_lt
 omega
theorem pk_end (l : List UInt8) (k : Nat) (h : l.length ≤ k) : pk l k = 0 := by
 unfold pk
 rw [List.getD_eq_getElem?_getD,List.getElem?_eq_none h]
 rfl
theorem pk_at (l : List UInt8) (k : Nat) (c : UInt8) (h : l[k]? = some c) : pk l k = c.toNat := by
 unfold pk
 rw [List.getD_eq_getElem?_getD,h]
 rfl
theorem al_zero : (letterI 0 || digitI 0) = false := by decide
structure Txt (W : World) (g : Nat) (s : List UInt8) : Prop where
 txt : ∃ h c,W.cell? ⟨g,0,none⟩ = some (.slice (some ⟨h,0,none⟩) s.length c) ∧ ∀ j,j < s.length → W.cell? ⟨h,j,none⟩ = some (.int .u8 (pk s j))
 at0 : W.cell? ⟨g,1,none⟩ = some (.int .i64 0)
 len : s.length ≤ 1000000000000000
set_option maxHeartbeats 1000000 in
theorem peek_calls (g : Nat) (s : List UInt8) (k : Nat) (hk : k ≤ 2000000000000000) (w : World) (h : Txt w g s) :
  Calls Tryz.prog 89 #[.pointer (some ⟨g,0,none⟩),.int .i64 k] w fun e w' => e = .returned (.int .u8 (pk s k)) ∧ ∃ n,w' = w.drewN n := by
 obtain ⟨⟨hb,c,c0,hcell⟩,c1,hlen⟩ := h
 have w1 : IntKind.i64.wrap (k : Int) = (k : Int) := IntWalk.i64_in _ (by omega)
 have w2 : IntKind.i64.wrap (0 + (k : Int)) = (k : Int) := by rw [Int.zero_add]; exact IntWalk.i64_in _ (by omega)
 by_cases hlt : k < s.length
 ·have q := hcell k hlt
  have b1 : decide ((k : Int) ≥ (s.length : Int)) = false := decide_eq_false (by omega)
  have b2 : decide ((s.length : Int) ≤ (k : Int)) = false := decide_eq_false (by omega)
  have i0 : (0 : Int) ≤ (k : Int) := by omega
  have i1 : (k : Int) < (s.length : Int) := by omega
  clear hcell
  go_enter Tryz.func89,Tryz.ntmps89
  go_wp2_with fail
  go_quiet (fail)
  go_wp2_with fail
  go_quiet (fail)
  go_wp2
  go_ret
  exact ⟨rfl,_,by rw [World.drewN_drewN]⟩
 ·have e := pk_end s k (by omega)
  have b1 : decide ((k : Int) ≥ (s.length : Int)) = true := decide_eq_true (by omega)
  have b2 : decide ((s.length : Int) ≤ (k : Int)) = true := decide_eq_true (by omega)
  rw [e]
  clear hcell
  go_enter Tryz.func89,Tryz.ntmps89
  go_wp2_with fail
  go_quiet (fail)
  go_wp2
  go_ret
  exact ⟨rfl,_,rfl⟩
end Go.Proofs.YtbjddomocggjmaaGreat.Sc
namespace Go.Proofs.YtbjddomocggjmaaGreat.Sc
open Go.RowKit Go.Proofs.YtbjddomocggjmaaGreat.Sep
variable {B : Nat} {w0 w : World} {R : HP}
theorem Txt.drewN {W : World} {g : Nat} {s : List UInt8} (h : Txt W g s) (n : Nat) : Txt (W.drewN n) g s := ⟨h.txt,h.at0,h.len⟩
theorem restB_cons (c : UInt8) (r : List UInt8) : restB (c :: r) = if al c then restB r else if c = 45 then (match r with | [] => false | d :: _ => al d && restB r) else false := rfl
theorem alI (s : List UInt8) (k : Nat) (c : UInt8) (h : s[k]? = some c) : (letterI (pk s k) || digitI (pk s k)) = al c := by rw [pk_at s k c h]; rfl
theorem peek_next (g : Nat) (s : List UInt8) (k : Nat) (hk : k ≤ 1000000000000000) (w : World) (h : Txt w g s) :
 Calls Tryz.prog 89 #[.pointer (some ⟨g,0,none⟩),.int .i64 ((k : Int) + 1)] w fun e w' => e = .returned (.int .u8 (pk s (k + 1))) ∧ ∃ n,w' = w.drewN n := peek_calls g s (k + 1) (by omega) w h
set_option maxHeartbeats 2000000 in
theorem word_calls (g : Nat) (s : List UInt8) (hs : 0 < s.length) (w : World) (h : Txt w g s) :
  Calls Tryz.prog 90 #[.pointer (some ⟨g,0,none⟩)] w fun e w' => ∃ (m : Int) (ok : Bool),e = .returned (.tuple #[.int .i64 m,.bool ok]) ∧ (ok && decide (m = (s.length : Int))) = restB (s.drop 1) ∧ ∃ n,w' = w.drewN n := by
 have HT := Lib.hid h
 have hlen := h.len
 clear h
 go_enter Tryz.func90,Tryz.ntmps90
 go_wp2
 go_loopw [4] (fun v wr => ∃ k : Nat,1 ≤ k ∧ k ≤ s.length ∧ v = .int .i64 k ∧ Hid (restB (s.drop 1) = restB (s.drop k)) ∧ Hid (Txt wr g s ∧ ∃ n,wr = w.drewN n)) (fun v _ => s.length - (intOf v).toNat)
 case atStart => exact ⟨1,by omega,by omega,rfl,Lib.hid rfl,Lib.hid ⟨HT.out,0,rfl⟩⟩
 case round =>
  obtain ⟨k,hk1,hk2,rfl,HB,HW⟩ := hrel
  have hk3 : k ≤ 2000000000000000 := by omega
  have hk4 : k ≤ 1000000000000000 := by omega
  have hw1 : IntKind.i64.wrap ((k : Int) + 1) = (k : Int) + 1 := IntWalk.i64_in _ (by omega)
  have hpc := pk_bounds s k
  have hpd := pk_bounds s (k + 1)
  go_wp2_with fail
  go_quiet ((go_at_call 89; first | with_reducible exact Calls.quiet_of (peek_calls g s k hk3 _ (HW.out.1.drewN _)) | with_reducible exact Calls.quiet_of (peek_next g s k hk4 _ (HW.out.1.drewN _))))
  clear hw1
  have HP := Lib.hid (show (∀ c,s[k]? = some c → (letterI (pk s k) || digitI (pk s k)) = al c ∧ pk s k = c.toNat) from fun c hc => ⟨alI s k c hc,pk_at s k c hc⟩)
  have HQ := Lib.hid (show (∀ c,s[k + 1]? = some c → (letterI (pk s (k + 1)) || digitI (pk s (k + 1))) = al c ∧ pk s (k + 1) = c.toNat) from fun c hc => ⟨alI s (k + 1) c hc,pk_at s (k + 1) c hc⟩)
  have HE := Lib.hid (And.intro (pk_end s k) (pk_end s (k + 1)))
  generalize pk s k = c at *
  generalize pk s (k + 1) = d at *
  have HN : Hid (∀ a,(HW.out.1.drewN a).len = (HW.out.1.drewN a).len) := Lib.hid fun _ => rfl
  clear HN
  cases hlc : letterI c with
  | true =>
   have hlt : k < s.length := by
    apply Decidable.byContradiction
    intro hc
    rw [HE.out.1 (by omega)] at hlc
    revert hlc
    decide
   have HX : Hid (restB (s.drop 1) = restB (s.drop (k + 1))) := Lib.hid (by
    obtain ⟨x,hx⟩ : ∃ x,s[k]? = some x := ⟨_,List.getElem?_eq_getElem hlt⟩
    have ha := (HP.out x hx).1
    rw [hlc,Bool.true_or] at ha
    obtain ⟨hkl,ek⟩ := List.getElem?_eq_some_iff.1 hx
    rw [HB.out,List.drop_eq_getElem_cons hkl,ek,restB_cons, ← ha]
    rfl)
   go_wp2_with fail
   refine (letter_calls c (by omega) (by omega) _).mono ?_
   rintro e w' ⟨rfl,rfl⟩
   go_wp2
   exact ⟨⟨k + 1,by omega,by omega,by go_num,HX,Lib.hid ⟨HW.out.1.drewN _,by obtain ⟨n,e⟩ := HW.out.2; exact ⟨_,by rw [e,World.drewN_drewN]⟩⟩⟩,by simp only [intOf]; omega⟩
  | false =>
   cases hdc : digitI c with
   | true =>
    have hlt : k < s.length := by
     apply Decidable.byContradiction
     intro hc
     rw [HE.out.1 (by omega)] at hdc
     revert hdc
     decide
    have HX : Hid (restB (s.drop 1) = restB (s.drop (k + 1))) := Lib.hid (by
     obtain ⟨x,hx⟩ : ∃ x,s[k]? = some x := ⟨_,List.getElem?_eq_getElem hlt⟩
     have ha := (HP.out x hx).1
     rw [hlc,hdc,Bool.false_or] at ha
     obtain ⟨hkl,ek⟩ := List.getElem?_eq_some_iff.1 hx
     rw [HB.out,List.drop_eq_getElem_cons hkl,ek,restB_cons, ← ha]
     rfl)
    go_wp2_with fail
    refine (letter_calls c (by omega) (by omega) _).mono ?_
    rintro e w' ⟨rfl,rfl⟩
    go_wp2_with fail
    refine (digit_calls c _).mono ?_
    rintro e w' ⟨rfl,rfl⟩
    go_wp2
    exact ⟨⟨k + 1,by omega,by omega,by go_num,HX,Lib.hid ⟨HW.out.1.drewN _,by obtain ⟨n,e⟩ := HW.out.2; exact ⟨_,by rw [e,World.drewN_drewN]⟩⟩⟩,by simp only [intOf]; omega⟩
   | false =>
    have HNA : Hid (∀ x,s[k]? = some x → al x = false) := Lib.hid fun x hx => by rw [← (HP.out x hx).1,hlc,hdc]; rfl
    by_cases h45 : c = 45
    ·have hlt : k < s.length := by
      apply Decidable.byContradiction
      intro hc
      rw [HE.out.1 (by omega)] at h45
      omega
     have HX0 : Hid (restB (s.drop 1) = (match s.drop (k + 1) with | [] => false | d :: _ => al d && restB (s.drop (k + 1)))) := Lib.hid (by
      obtain ⟨x,hx⟩ : ∃ x,s[k]? = some x := ⟨_,List.getElem?_eq_getElem hlt⟩
      have h1 := HNA.out x hx
      have h2 := (HP.out x hx).2
      have h3 : x = 45 := by
       apply UInt8.toNat_inj.1
       show x.toNat = 45
       omega
      obtain ⟨hkl,ek⟩ := List.getElem?_eq_some_iff.1 hx
      rw [HB.out,List.drop_eq_getElem_cons hkl,ek,restB_cons,h1,if_neg (by simp),if_pos h3])
     have HD : Hid ((s.drop (k + 1) = [] ∧ d = 0) ∨ ∃ y r,s.drop (k + 1) = y :: r ∧ (letterI d || digitI d) = al y) := Lib.hid (by
      by_cases hl2 : k + 1 < s.length
      ·obtain ⟨y,hy⟩ : ∃ y,s[k + 1]? = some y := ⟨_,List.getElem?_eq_getElem hl2⟩
       obtain ⟨hkl,ek⟩ := List.getElem?_eq_some_iff.1 hy
       exact .inr ⟨y,s.drop (k + 2),by rw [List.drop_eq_getElem_cons hkl,ek],(HQ.out y hy).1⟩
      ·exact .inl ⟨List.drop_of_length_le (by omega),HE.out.2 (by omega)⟩)
     have HNR : Hid ((letterI d || digitI d) = false → restB (s.drop 1) = false) := Lib.hid (fun hf => by
      rw [HX0.out]
      rcases HD.out with ⟨h1,_⟩ | ⟨y,r,h1,h2⟩
      ·rw [h1]
      ·rw [h1]
       show (al y && _) = false
       rw [← h2,hf]
       rfl)
     have HYR : Hid ((letterI d || digitI d) = true → restB (s.drop 1) = restB (s.drop (k + 1))) := Lib.hid (fun hf => by
      rw [HX0.out]
      rcases HD.out with ⟨_,h1⟩ | ⟨y,r,h1,h2⟩
      ·rw [h1,al_zero] at hf; cases hf
      ·rw [h1]
       show (al y && _) = _
       rw [← h2,hf,Bool.true_and])
     have b45 : (c != 45) = false := by rw [h45]; rfl
     by_cases hd45 : d = 45
     ·have bd : (d == 45) = true := by rw [hd45]; rfl
      have HX : Hid ((true && decide ((k : Int) = (s.length : Int))) = restB (s.drop 1)) := Lib.hid (by rw [HNR.out (by rw [hd45]; decide)]; simp; omega)
      clear hd45 h45
      go_wp2_with fail
      refine (letter_calls c (by omega) (by omega) _).mono ?_
      rintro e w' ⟨rfl,rfl⟩
      go_wp2_with fail
      refine (digit_calls c _).mono ?_
      rintro e w' ⟨rfl,rfl⟩
      go_wp2
      refine bodyPost_ret (v := .tuple #[.int .i64 k,.bool true]) (by simp [results,Tryz.results90,go_sem]) rfl ⟨_,_,rfl,HX.out,by obtain ⟨n,e⟩ := HW.out.2; exact ⟨_,by rw [e,World.drewN_drewN]⟩⟩
     ·have bd : (d == 45) = false := by simpa using hd45
      clear hd45 h45
      cases hld : letterI d with
      | true =>
       have HX : Hid (restB (s.drop 1) = restB (s.drop (k + 1))) := Lib.hid (HYR.out (by rw [hld]; rfl))
       go_wp2_with fail
       refine (letter_calls c (by omega) (by omega) _).mono ?_
       rintro e w' ⟨rfl,rfl⟩
       go_wp2_with fail
       refine (digit_calls c _).mono ?_
       rintro e w' ⟨rfl,rfl⟩
       go_wp2_with fail
       refine (letter_calls d (by omega) (by omega) _).mono ?_
       rintro e w' ⟨rfl,rfl⟩
       go_wp2
       exact ⟨⟨k + 1,by omega,by omega,by go_num,HX,Lib.hid ⟨HW.out.1.drewN _,by obtain ⟨n,e⟩ := HW.out.2; exact ⟨_,by rw [e,World.drewN_drewN]⟩⟩⟩,by simp only [intOf]; omega⟩
      | false =>
       cases hdd : digitI d with
       | true =>
        have HX : Hid (restB (s.drop 1) = restB (s.drop (k + 1))) := Lib.hid (HYR.out (by rw [hld,hdd]; rfl))
        go_wp2_with fail
        refine (letter_calls c (by omega) (by omega) _).mono ?_
        rintro e w' ⟨rfl,rfl⟩
        go_wp2_with fail
        refine (digit_calls c _).mono ?_
        rintro e w' ⟨rfl,rfl⟩
        go_wp2_with fail
        refine (letter_calls d (by omega) (by omega) _).mono ?_
        rintro e w' ⟨rfl,rfl⟩
        go_wp2_with fail
        refine (digit_calls d _).mono ?_
        rintro e w' ⟨rfl,rfl⟩
        go_wp2
        exact ⟨⟨k + 1,by omega,by omega,by go_num,HX,Lib.hid ⟨HW.out.1.drewN _,by obtain ⟨n,e⟩ := HW.out.2; exact ⟨_,by rw [e,World.drewN_drewN]⟩⟩⟩,by simp only [intOf]; omega⟩
       | false =>
        have HX : Hid ((false && decide ((k : Int) = (s.length : Int))) = restB (s.drop 1)) := Lib.hid (by rw [HNR.out (by rw [hld,hdd]; rfl)]; rfl)
        go_wp2_with fail
        refine (letter_calls c (by omega) (by omega) _).mono ?_
        rintro e w' ⟨rfl,rfl⟩
        go_wp2_with fail
        refine (digit_calls c _).mono ?_
        rintro e w' ⟨rfl,rfl⟩
        go_wp2_with fail
        refine (letter_calls d (by omega) (by omega) _).mono ?_
        rintro e w' ⟨rfl,rfl⟩
        go_wp2_with fail
        refine (digit_calls d _).mono ?_
        rintro e w' ⟨rfl,rfl⟩
        go_wp2
        refine bodyPost_ret (v := .tuple #[.int .i64 k,.bool false]) (by simp [results,Tryz.results90,go_sem]) rfl ⟨_,_,rfl,HX.out,by obtain ⟨n,e⟩ := HW.out.2; exact ⟨_,by rw [e,World.drewN_drewN]⟩⟩
    ·have b45 : (c != 45) = true := by simpa using h45
     have HX : Hid ((true && decide ((k : Int) = (s.length : Int))) = restB (s.drop 1)) := Lib.hid (by
      by_cases hlt : k < s.length
      ·obtain ⟨x,hx⟩ : ∃ x,s[k]? = some x := ⟨_,List.getElem?_eq_getElem hlt⟩
       have h1 := HNA.out x hx
       have h2 := (HP.out x hx).2
       have h3 : ¬ x = 45 := fun e => h45 (by rw [h2,e]; rfl)
       obtain ⟨hkl,ek⟩ := List.getElem?_eq_some_iff.1 hx
       rw [HB.out,List.drop_eq_getElem_cons hkl,ek,restB_cons,h1,if_neg (by simp),if_neg h3]
       simp
       omega
      ·have h1 : k = s.length := by omega
       rw [HB.out,h1,List.drop_length]
       simp [restB])
     clear h45
     go_wp2_with fail
     refine (letter_calls c (by omega) (by omega) _).mono ?_
     rintro e w' ⟨rfl,rfl⟩
     go_wp2_with fail
     refine (digit_calls c _).mono ?_
     rintro e w' ⟨rfl,rfl⟩
     go_wp2
     refine bodyPost_ret (v := .tuple #[.int .i64 k,.bool true]) (by simp [results,Tryz.results90,go_sem]) rfl ⟨_,_,rfl,HX.out,by obtain ⟨n,e⟩ := HW.out.2; exact ⟨_,by rw [e,World.drewN_drewN]⟩⟩
theorem peek_zero (g : Nat) (s : List UInt8) (w : World) (h : Txt w g s) :
 Calls Tryz.prog 89 #[.pointer (some ⟨g,0,none⟩),.int .i64 0] w fun e w' => e = .returned (.int .u8 (pk s 0)) ∧ ∃ n,w' = w.drewN n := peek_calls g s 0 (by omega) w h
theorem St.conv (h : St B w0 w R) (e : TypeId) (s : ByteArray) : St B w0 (Lib.bytesWorld w e s) (Blk w.heap.size (.cells (Lib.bytesCells w e s) e ((Lib.bytesCells w e s).size,(Lib.bytesCells w e s).size + 1)) • R) := by
 have h' : St B w0 w (emp • R) := h.pad.swap
 refine h'.step (by rw [Lib.bytesWorld_size]; omega) rfl rfl rfl fun F hF _ => ⟨fun b hb _ => Lib.bytesWorld_at_old _ _ _ _ hb,fun b => b = w.heap.size, ?_,rfl,Lib.bytesWorld_at_new _ _ _⟩
 rintro b rfl
 exact .inr ⟨Nat.le_refl _,by rw [Lib.bytesWorld_size]; omega⟩
set_option maxHeartbeats 2000000 in
theorem whole_calls (s : ByteArray) (h : St B w0 w R) (hs : s.size ≤ M) :
  Calls Tryz.prog 73 #[.string s] w fun e w' => e = .returned (.bool (wholeB s.data.toList)) ∧ St B w0 w' R := by
 have kc := fun (W : World) => Lib.run_convert_string_bytes (P := Tryz.prog) W 9 123 5 s Tryz.underlying9 Tryz.underlying123 Tryz.underlying5
 have hM : s.size ≤ 140737488355328 := hs
 have HC := Lib.hid (St.conv h 5 s)
 have HA := Lib.hid (HC.out.alloc (.cells #[.slice (some ⟨w.heap.size,0,none⟩) s.size (grownCap w s.size 0 5),.int .i64 0] 127))
 have HT : Hid (Txt ((Lib.bytesWorld w 5 s).alloc (.cells #[.slice (some ⟨w.heap.size,0,none⟩) s.size (grownCap w s.size 0 5),.int .i64 0] 127)) (Lib.bytesWorld w 5 s).heap.size s.data.toList) := Lib.hid ⟨⟨w.heap.size,_,HA.out.cell 0 rfl,fun j hj => by
  have hj2 : j < s.size := by simpa using hj
  rw [World.cell?_alloc_lt _ _ _ (by show w.heap.size < _; rw [Lib.bytesWorld_size]; omega)]
  exact Lib.bytesWorld_cell w 5 s j hj2⟩,HA.out.cell 1 rfl,by simp; have : s.data.size = s.size := rfl; omega⟩
 have HF : Hid ((letterI (pk s.data.toList 0) = false → wholeB s.data.toList = false) ∧ (letterI (pk s.data.toList 0) = true → 0 < s.data.toList.length ∧ wholeB s.data.toList = restB (s.data.toList.drop 1))) := Lib.hid (by
  cases s.data.toList with
  | nil => exact ⟨fun _ => rfl,fun h => by revert h; decide⟩
  | cons c r =>
   have e0 : pk (c :: r) 0 = c.toNat := rfl
   rw [e0]
   exact ⟨fun h => by show (letterI c.toNat && restB r) = false; rw [h]; rfl,fun h => ⟨by simp,by show (letterI c.toNat && restB r) = restB r; rw [h]; rfl⟩⟩)
 clear h hs HC
 go_enter Tryz.func73,Tryz.ntmps73
 go_wp2_with fail
 refine (peek_zero _ _ _ HT.out).mono ?_
 rintro e w1 ⟨rfl,hw1⟩
 have HW1 : Hid (Txt w1 (Lib.bytesWorld w 5 s).heap.size s.data.toList ∧ St B w0 w1 R) := Lib.hid (by
  obtain ⟨n,rfl⟩ := hw1
  exact ⟨HT.out.drewN n,(HA.out.drop.drop).drewN n⟩)
 clear hw1 HT HA
 have hpk := pk_bounds s.data.toList 0
 have HL : Hid (s.data.toList.length = s.size) := Lib.hid (by simp)
 generalize pk s.data.toList 0 = c0 at *
 go_wp2_with fail
 refine (letter_calls _ hpk.1 hpk.2 _).mono ?_
 rintro e w2 ⟨rfl,rfl⟩
 cases hc : letterI c0 with
 | false =>
  have HZ := Lib.hid (HF.out.1 hc)
  clear hc HF
  go_wp2
  go_ret
  exact ⟨by rw [HZ.out]; rfl,HW1.out.2⟩
 | true =>
  have HZ := Lib.hid (HF.out.2 hc)
  clear hc HF
  go_wp2_with fail
  refine (word_calls _ s.data.toList HZ.out.1 _ HW1.out.1).mono ?_
  rintro e w3 ⟨m,ok,rfl,hm,hw3⟩
  have HW3 : Hid (St B w0 w3 R) := Lib.hid (by
   obtain ⟨n,rfl⟩ := hw3
   exact HW1.out.2.drewN n)
  have HM : Hid ((ok && decide (m = (s.size : Int))) = wholeB s.data.toList) := Lib.hid (by
   rw [HZ.out.2, ← hm,HL.out])
  clear hw3 hm
  cases ok with
  | false =>
   go_wp2
   go_ret
   exact ⟨by rw [← HM.out]; rfl,HW3.out⟩
  | true =>
   by_cases hms : m = (s.size : Int)
   ·have hb : (m == (s.size : Int)) = true := by simpa using hms
    have HR : Hid (wholeB s.data.toList = true) := Lib.hid (by rw [← HM.out]; simpa using hms)
    clear hms
    go_wp2
    go_ret
    exact ⟨by rw [HR.out]; rfl,HW3.out⟩
   ·have hb : (m == (s.size : Int)) = false := by simpa using hms
    have HR : Hid (wholeB s.data.toList = false) := Lib.hid (by rw [← HM.out]; simpa using hms)
    clear hms
    go_wp2
    go_ret
    exact ⟨by rw [HR.out]; rfl,HW3.out⟩
end Go.Proofs.YtbjddomocggjmaaGreat.Sc
namespace Go.Proofs.YtbjddomocggjmaaGreat.Sc
open Go.RowKit Go.Proofs.YtbjddomocggjmaaGreat.Sep
open Go.Proofs.YtbjddomocggjmaaGreatW.PrintWords (bt bt_at)
variable {B : Nat} {w0 w : World} {R : HP}
theorem head_bt (s : ByteArray) (h : 0 < s.size) : headI s.data.toList = bt s 0 := by
 rw [← bt_at s 0 h]
 unfold headI
 obtain ⟨⟨l⟩⟩ := s
 cases l with
 | nil => exact absurd h (Nat.lt_irrefl 0)
 | cons a l => rfl
theorem whole_pos (s : ByteArray) (h : wholeB s.data.toList = true) : 0 < s.size := by
 obtain ⟨⟨l⟩⟩ := s
 cases l with
 | nil => cases h
 | cons a l => show 0 < (a :: l).length; simp
theorem lower_calls (s : ByteArray) (h : St B w0 w R) (hs : s.size ≤ M) :
  Calls Tryz.prog 93 #[.string s] w fun e w' => e = .returned (.bool (lowerB s.data.toList)) ∧ St B w0 w' R := by
 have hw := whole_calls s h hs
 clear h hs
 cases hc : wholeB s.data.toList with
 | false =>
  have e : lowerB s.data.toList = false := by unfold lowerB; rw [hc]; rfl
  rw [e]
  rw [hc] at hw
  clear e hc
  go_enter Tryz.func93,Tryz.ntmps93
  go_wp2_with fail
  refine hw.mono ?_
  rintro e w' ⟨rfl,h2⟩
  have H2 := Lib.hid h2
  clear h2 hw
  go_wp2
  go_ret
  exact ⟨rfl,H2.out⟩
 | true =>
  have hp := whole_pos s hc
  have e : lowerB s.data.toList = decide (97 ≤ bt s 0) := by
   unfold lowerB
   rw [hc,Bool.true_and,head_bt s hp]
  rw [e]
  rw [hc] at hw
  clear e hc
  go_enter Tryz.func93,Tryz.ntmps93
  go_wp2_with fail
  refine hw.mono ?_
  rintro e w' ⟨rfl,h2⟩
  have H2 := Lib.hid h2
  clear h2 hw
  have hx6 : ∀ h : 0 < s.size,((s[0]'h).toNat : Int) = bt s 0 := bt_at s 0
  have qi6 : (0 < (s.size : Int)) = True := eq_true (by omega)
  replace hp := eq_true hp
  go_wp2
  go_ret
  exact ⟨rfl,H2.out⟩
theorem upper_calls (s : ByteArray) (h : St B w0 w R) (hs : s.size ≤ M) :
  Calls Tryz.prog 54 #[.string s] w fun e w' => e = .returned (.bool (upperB s.data.toList)) ∧ St B w0 w' R := by
 have hw := whole_calls s h hs
 clear h hs
 cases hc : wholeB s.data.toList with
 | false =>
  have e : upperB s.data.toList = false := by unfold upperB; rw [hc]; rfl
  rw [e]
  rw [hc] at hw
  clear e hc
  go_enter Tryz.func54,Tryz.ntmps54
  go_wp2_with fail
  refine hw.mono ?_
  rintro e w' ⟨rfl,h2⟩
  have H2 := Lib.hid h2
  clear h2 hw
  go_wp2
  go_ret
  exact ⟨rfl,H2.out⟩
 | true =>
  have hp := whole_pos s hc
  have e : upperB s.data.toList = decide (bt s 0 < 97) := by
   unfold upperB
   rw [hc,Bool.true_and,head_bt s hp]
  rw [e]
  rw [hc] at hw
  clear e hc
  go_enter Tryz.func54,Tryz.ntmps54
  go_wp2_with fail
  refine hw.mono ?_
  rintro e w' ⟨rfl,h2⟩
  have H2 := Lib.hid h2
  clear h2 hw
  have hx6 : ∀ h : 0 < s.size,((s[0]'h).toNat : Int) = bt s 0 := bt_at s 0
  have qi6 : (0 < (s.size : Int)) = True := eq_true (by omega)
  replace hp := eq_true hp
  go_wp2
  go_ret
  exact ⟨rfl,H2.out⟩
end Go.Proofs.YtbjddomocggjmaaGreat.Sc
end
section
namespace Go.Proofs.YtbjddomocggjmaaGreat.Sc
open Go.RowKit Go.ChangeShapes Go.WideShapes Go.Proofs.YtbjddomocggjmaaGreat.Sep
open Go.Proofs.YtbjddomocggjmaaGreatW.PrintWords
variable {B : Nat} {w0 w : World} {R : HP}
def keyL : List (List UInt8) := [[66,79,79,76,69,65,78],[73,78,84,69,71,69,82],[69,78,85,77,69,82,65,84,69,68],[78,85,76,76],[66,73,84],[83,84,82,73,78,71],[79,67,84,69,84],[73,65,53,83,116,114,105,110,103],[83,69,81,85,69,78,67,69],[79,70],[67,72,79,73,67,69],[83,73,90,69],[70,82,79,77],
 [79,80,84,73,79,78,65,76],[68,69,70,65,85,76,84],[84,82,85,69],[70,65,76,83,69],[77,73,78],[77,65,88],[69,88,67,69,80,84],[68,69,70,73,78,73,84,73,79,78,83],[65,85,84,79,77,65,84,73,67],[84,65,71,83],[66,69,71,73,78],[69,78,68],[73,77,80,79,82,84,83]]
def keyB (s : ByteArray) : Bool := keyL.contains s.data.toList
def nameB (s : ByteArray) : Bool := upperB s.data.toList && !keyB s
set_option maxRecDepth 10000 in
theorem keyword_f (s : ByteArray) : PKeyword.shape_Keyword.f 1 s = some (keyB s) := by
 unfold keyB PKeyword.shape_Keyword.f
 simp only [PKeyword.shape_Keyword.j0]
 rw [Lib.toList_data]
 generalize s.data.toList = l
 by_cases h : l ∈ keyL
 ·rw [show keyL.contains l = true from List.contains_iff_mem.2 h]
  simp only [keyL,List.mem_cons,List.not_mem_nil,or_false] at h
  rcases h with rfl | rfl | rfl | rfl | rfl | rfl | rfl | rfl | rfl | rfl | rfl | rfl | rfl | rfl | rfl | rfl | rfl | rfl | rfl | rfl | rfl | rfl | rfl | rfl | rfl | rfl <;> decide +kernel
 ·rw [show keyL.contains l = false from Bool.eq_false_iff.2 fun hc => h (List.contains_iff_mem.1 hc)]
  simp only [keyL,List.mem_cons,List.not_mem_nil,or_false,not_or] at h
  simp [h]
theorem keyword_calls (s : ByteArray) (h : St B w0 w R) :
  Calls Tryz.prog 55 #[.string s] w fun e w' => e = .returned (.bool (keyB s)) ∧ St B w0 w' R :=
 (PKeyword.shape_Keyword.calls 1 s _ w (keyword_f s)).mono fun _ _ ⟨h1,h2⟩ => ⟨h1,by obtain ⟨n,rfl⟩ := h2.out; exact h.drewN n⟩
theorem name_calls (s : ByteArray) (h : St B w0 w R) (hs : oS s) :
  Calls Tryz.prog 28 #[.string s] w fun e w' => e = .returned (.bool (nameB s)) ∧ St B w0 w' R := by
 unfold nameB
 have hu := upper_calls s h hs
 clear h hs
 cases hq : upperB s.data.toList with
 | false =>
  rw [hq] at hu
  clear hq
  go_enter Tryz.func28,Tryz.ntmps28
  go_wp2_with fail
  refine hu.mono ?_
  rintro e w1 ⟨rfl,h1⟩
  have H1 := Lib.hid h1
  clear h1
  go_wp2
  go_ret
  exact ⟨rfl,H1.out⟩
 | true =>
  rw [hq] at hu
  clear hq
  go_enter Tryz.func28,Tryz.ntmps28
  go_wp2_with fail
  refine hu.mono ?_
  rintro e w1 ⟨rfl,h1⟩
  have H1 := Lib.hid h1
  clear h1
  go_wp2_with fail
  refine (keyword_calls s H1.out).mono ?_
  rintro e w2 ⟨rfl,h2⟩
  have H2 := Lib.hid h2
  clear h2
  go_wp2
  go_ret
  exact ⟨by rw [Bool.true_and]; rfl,H2.out⟩
theorem wrap_in {x : Int} (h0 : -9223372036854775808 ≤ x) (h1 : x ≤ 9223372036854775807) : wrap64 x = x := by
 unfold wrap64
 omega
theorem wrap_nat (i : Nat) (h : i < 9223372036854775807) : wrap64 ((i : Int) + 1) = ((i + 1 : Nat) : Int) := wrap_in (by omega) (by omega)
theorem size_list (s : ByteArray) : s.data.toList.length = s.size := by simp
theorem bt_getD (s : ByteArray) (i : Nat) (h : i < s.size) : bt s i = ((s.data.toList.getD i 0).toNat : Int) := by
 rw [← bt_at s i h]
 congr 1
 rw [List.getD_eq_getElem?_getD,List.getElem?_eq_getElem (by rw [size_list]; exact h)]
 rfl
theorem bt_list (s : ByteArray) (i : Nat) (c : UInt8) (h : s.data.toList[i]? = some c) : bt s i = (c.toNat : Int) := by
 obtain ⟨h1,h2⟩ := List.getElem?_eq_some_iff.1 h
 rw [bt_getD s i (by rw [size_list] at h1; exact h1),List.getD_eq_getElem?_getD,h]
 rfl
def prC (c : UInt8) : Bool := !(decide (c.toNat < 32) || decide (126 < c.toNat))
def printB (s : ByteArray) : Bool := s.data.toList.all prC
def risesB : List UInt8 → Bool
 | a :: b :: r => !decide (b.toNat ≤ a.toNat) && risesB (b :: r)
 | _ => true
theorem print_ev (s : ByteArray) (hs : oS s) (n : Nat) : ∀ i : Nat,i + n = s.size → Ev (fun k => Pprintable.shape_printable.l0 k s (s.size : Int) i) ((s.data.toList.drop i).all prC) := by
 have hM : s.size ≤ 140737488355328 := hs
 induction n with
 | zero =>
  intro i hi
  refine Ev.step (f := fun _ => some true) (fun k => ?_) ?_
  ·simp only [Pprintable.shape_printable.l0]
   rw [if_neg (by omega)]
  ·rw [List.drop_of_length_le (by rw [size_list]; omega)]
   exact Ev.now _
 | succ n ih =>
  intro i hi
  have hlt : i < s.data.toList.length := by rw [size_list]; omega
  have hd := List.drop_eq_getElem_cons hlt
  have hb := bt_list s i _ (List.getElem?_eq_getElem hlt)
  generalize s.data.toList[i] = c at *
  rw [hd,List.all_cons]
  have hw := wrap_nat i (by omega)
  by_cases h1 : c.toNat < 32
  ·rw [show prC c = false by unfold prC; rw [decide_eq_true h1]; rfl,Bool.false_and]
   refine Ev.step (f := fun _ => some false) (fun k => ?_) (Ev.now _)
   simp only [Pprintable.shape_printable.l0]
   rw [if_pos (by omega),if_pos (by omega),if_pos (by omega),hb,if_pos (by omega)]
  ·by_cases h2 : 126 < c.toNat
   ·rw [show prC c = false by unfold prC; rw [decide_eq_true h2,Bool.or_true]; rfl,Bool.false_and]
    refine Ev.step (f := fun _ => some false) (fun k => ?_) (Ev.now _)
    simp only [Pprintable.shape_printable.l0]
    rw [if_pos (by omega),if_pos (by omega),if_pos (by omega),hb,if_neg (by omega),if_pos (by omega)]
   ·rw [show prC c = true by unfold prC; rw [decide_eq_false h1,decide_eq_false h2]; rfl,Bool.true_and]
    refine Ev.step (fun k => ?_) (ih (i + 1) (by omega))
    simp only [Pprintable.shape_printable.l0]
    rw [if_pos (by omega),if_pos (by omega),if_pos (by omega),hb,if_neg (by omega),if_neg (by omega),hw]
theorem printable_calls (s : ByteArray) (h : St B w0 w R) (hs : oS s) :
  Calls Tryz.prog 76 #[.string s] w fun e w' => e = .returned (.bool (printB s)) ∧ St B w0 w' R := by
 obtain ⟨k,hk⟩ := (print_ev s hs s.size 0 (by omega)).rounds
 exact (Pprintable.shape_printable.calls k s _ w hk).mono fun _ _ ⟨h1,h2⟩ => ⟨h1,by obtain ⟨n,rfl⟩ := h2.out; exact h.drewN n⟩
theorem rises_ev (s : ByteArray) (hs : oS s) (n : Nat) : ∀ i : Nat,0 < i → i + n = s.size ∨ (s.size = 0 ∧ i = 1) → Ev (fun k => Prises.shape_rises.l0 k s i) (risesB (s.data.toList.drop (i - 1))) := by
 have hM : s.size ≤ 140737488355328 := hs
 induction n with
 | zero =>
  intro i h0 hi
  refine Ev.step (f := fun _ => some true) (fun k => ?_) ?_
  ·simp only [Prises.shape_rises.l0]
   rw [if_neg (by omega)]
  ·have e : risesB (s.data.toList.drop (i - 1)) = true := by
    have hl : (s.data.toList.drop (i - 1)).length ≤ 1 := by rw [List.length_drop,size_list]; omega
    revert hl
    generalize s.data.toList.drop (i - 1) = l
    intro hl
    match l,hl with
    | [],_ => rfl
    | [a],_ => rfl
   rw [e]
   exact Ev.now _
 | succ n ih =>
  intro i h0 hi
  by_cases hz : s.size = 0
  ·have e : s.data.toList = [] := List.eq_nil_of_length_eq_zero (by rw [size_list,hz])
   rw [e,List.drop_nil]
   refine Ev.step (f := fun _ => some true) (fun k => ?_) (Ev.now _)
   simp only [Prises.shape_rises.l0]
   rw [if_neg (by omega)]
  have hlt : i < s.data.toList.length := by rw [size_list]; omega
  have hlt1 : i - 1 < s.data.toList.length := by omega
  have hd := List.drop_eq_getElem_cons hlt
  have hd1 := List.drop_eq_getElem_cons hlt1
  have hb := bt_list s i _ (List.getElem?_eq_getElem hlt)
  have hb1 := bt_list s (i - 1) _ (List.getElem?_eq_getElem hlt1)
  rw [show i - 1 + 1 = i by omega] at hd1
  have ihn := ih (i + 1) (by omega) (.inl (by omega))
  rw [show i + 1 - 1 = i by omega] at ihn
  generalize s.data.toList[i] = c at *
  generalize s.data.toList[i - 1] = b at *
  have hw := wrap_nat i (by omega)
  have hw1 : wrap64 ((i : Int) - 1) = ((i - 1 : Nat) : Int) := by rw [wrap_in (by omega) (by omega)]; omega
  rw [hd1,hd,risesB]
  rw [hd] at ihn
  by_cases h1 : c.toNat ≤ b.toNat
  ·rw [decide_eq_true h1,Bool.not_true,Bool.false_and]
   refine Ev.step (f := fun _ => some false) (fun k => ?_) (Ev.now _)
   simp only [Prises.shape_rises.l0]
   rw [if_pos (by omega),hw1,if_pos (by omega),if_pos (by omega),if_pos (by omega),hb,hb1,if_pos (by omega)]
  ·rw [decide_eq_false h1,Bool.not_false,Bool.true_and]
   refine Ev.step (fun k => ?_) ihn
   simp only [Prises.shape_rises.l0]
   rw [if_pos (by omega),hw1,if_pos (by omega),if_pos (by omega),if_pos (by omega),hb,hb1,if_neg (by omega),hw]
theorem rises_calls (s : ByteArray) (h : St B w0 w R) (hs : oS s) :
  Calls Tryz.prog 77 #[.string s] w fun e w' => e = .returned (.bool (risesB s.data.toList)) ∧ St B w0 w' R := by
 have hr := rises_ev s hs (s.size - 1) 1 (by omega) (by omega)
 obtain ⟨k,hk⟩ := hr.rounds
 exact (Prises.shape_rises.calls k s _ w hk).mono fun _ _ ⟨h1,h2⟩ => ⟨h1,by obtain ⟨n,rfl⟩ := h2.out; exact h.drewN n⟩
def wordsB (l : List ByteArray) : Bool := decide (l.length ≤ 256) && l.all fun s => lowerB s.data.toList
theorem bad_word_tells (l : List ByteArray) (ho : ∀ s ∈ l,oS s) : TellsS w0 R 92 #[] l (fun s => !lowerB s.data.toList) := by
 intro W s h hs
 have hl := lower_calls s h (ho s hs)
 clear h
 show Calls Tryz.prog 92 #[.string s] W _
 go_enter Tryz.func92,Tryz.ntmps92
 go_wp2_with fail
 refine hl.mono ?_
 rintro e w1 ⟨rfl,h1⟩
 have H1 := Lib.hid h1
 clear h1
 go_wp2
 go_ret
 exact ⟨rfl,H1.out⟩
theorem words_calls (A : Option Addr) (c : Nat) (l : List ByteArray) (h : S w0 w R) (hC : Kd.string.C w0 A l.length l) (ho : ∀ s ∈ l,oS s) :
  Calls Tryz.prog 78 #[.slice A l.length c] w fun e w' => e = .returned (.bool (wordsB l)) ∧ S w0 w' R := by
 have eg : ∀ args w,(callFunc 92 args).run Tryz.prog w = .ok (.enter 92 args) w := enters_of Tryz.func92 (by kernel_rfl) rfl
 have hl : l.length ≤ 9223372036854775807 := hC.2.1
 have HC := Lib.hid (contains_strs _ _ eg _ A c l hC h (bad_word_tells l ho))
 have H := Lib.hid h
 unfold wordsB
 rw [all_any]
 clear h hC ho eg
 by_cases q : l.length ≤ 256
 ·have p1 : decide ((l.length : Int) ≤ 256) = true := decide_eq_true (by omega)
  rw [decide_eq_true q,Bool.true_and]
  go_enter Tryz.func78,Tryz.ntmps78
  go_wp2_with fail
  refine HC.out.mono ?_
  rintro e w1 ⟨rfl,h1⟩
  have H1 := Lib.hid h1
  clear h1
  go_wp2
  go_ret
  exact ⟨rfl,H1.out⟩
 ·have p1 : decide ((l.length : Int) ≤ 256) = false := decide_eq_false (by omega)
  rw [decide_eq_false q,Bool.false_and]
  go_enter Tryz.func78,Tryz.ntmps78
  go_wp2
  go_ret
  exact ⟨rfl,H.out⟩
end Go.Proofs.YtbjddomocggjmaaGreat.Sc
end
