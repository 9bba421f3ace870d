/- names of the reference of layer 8: walked. -/
import Derived.KernelRfl
import Derived.Test.YtbjddomocggjmaaGreatLH
import Derived.Test.YtbjddomocggjmaaGreatLJ
section
namespace Go.Proofs.YtbjddomocggjmaaGreat.Sc
open Go.RowKit Go.ChangeShapes Go.WideShapes Go.Proofs.YtbjddomocggjmaaGreat.Sep
open Go.Proofs.YtbjddomocggjmaaGreatW.PrintWords
variable {B : Nat} {w0 w : World} {R : HP}
def kwL : List ByteArray := keyL.map fun l => ⟨l.toArray⟩
theorem kw_in (s : ByteArray) : keyB s = kwL.any fun k => k.toList == s.toList := by
 unfold keyB kwL
 rw [List.any_map]
 simp only [Function.comp_def,Lib.toList_data]
 rw [Bool.eq_iff_iff,List.contains_iff_mem,List.any_eq_true]
 simp
set_option maxHeartbeats 4000000 in
set_option maxRecDepth 100000 in
theorem rkey_calls (s : ByteArray) (h : St B w0 w R) : Calls Tryz.prog 68 #[.string s] w fun e w' => e = .returned (.bool (keyB s)) ∧ St B w0 w' R := by
 generalize hg : w.heap.size = g
 have H := Lib.hid (alloc_at (n := g) h (.cells (kwL.map Value.string).toArray 9) hg.symm)
 clear h
 go_enter Tryz.func68,Tryz.ntmps68
 go_wp2
 go_loopw [4] (fun v wr => ∃ x : Int,0 ≤ x ∧ x ≤ 26 ∧ v = .int .i64 x ∧ Hid (St B w0 wr (Blk g (.cells (kwL.map Value.string).toArray 9) • R)) ∧ Hid (∀ k ∈ kwL.take x.toNat,(k.toList == s.toList) = false)) (fun v _ => 26 - (intOf v).toNat)
 case atStart => exact ⟨0,Int.le_refl _,by omega,rfl,H,Lib.hid (by simp)⟩
 case round =>
  clear H
  obtain ⟨x,hx0,hx1,rfl,HR,HT⟩ := hrel
  by_cases hlt : x < 26
  ·have hln : x.toNat < kwL.length := by show x.toNat < 26; omega
   obtain ⟨k,hk⟩ : ∃ k,kwL[x.toNat]? = some k := ⟨_,List.getElem?_eq_getElem hln⟩
   have d0 := HR.out.cell x.toNat (v := .string k) (by rw [List.getElem?_toArray,List.getElem?_map,hk]; rfl)
   have p0 := eq_true hx0
   have p1 := eq_true hlt
   have e1 : (x + 1).toNat = x.toNat + 1 := by omega
   cases hq : k.toList == s.toList with
   | true =>
    have HZ : Hid (keyB s = true) := Lib.hid (by rw [kw_in,List.any_eq_true]; exact ⟨k,List.mem_of_getElem? hk,hq⟩)
    go_wp2
    go_ret
    exact ⟨by rw [HZ.out]; rfl,HR.out.drop⟩
   | false =>
    have HT2 : Hid (∀ k ∈ kwL.take (x + 1).toNat,(k.toList == s.toList) = false) := Lib.hid (by
     rw [e1,List.take_add_one,hk]
     intro y hy
     rcases List.mem_append.1 hy with hy | hy
     ·exact HT.out y hy
     ·rw [show y = k by simpa using hy]; exact hq)
    go_wp2
    exact ⟨⟨x + 1,by omega,by omega,by go_num,HR,HT2⟩,by simp only [intOf]; omega⟩
  ·have hlt' := eq_false hlt
   have HZ : Hid (keyB s = false) := Lib.hid (by
    rw [kw_in,List.any_eq_false]
    intro k hk
    rw [HT.out k (by rw [List.take_of_length_le (show kwL.length ≤ x.toNat by show 26 ≤ x.toNat; omega)]; exact hk)]
    simp)
   go_wp2
   go_ret
   exact ⟨by rw [HZ.out]; rfl,HR.out.drop⟩
theorem rname_calls (s : ByteArray) (h : St B w0 w R) (hs : s.size ≤ M) : Calls Tryz.prog 41 #[.string s] w fun e w' => e = .returned (.bool (nameB s)) ∧ St B w0 w' R := by
 have HU := Lib.hid (rupper_calls s w hs)
 have HK := Lib.hid (rkey_calls s h)
 have H := Lib.hid h
 clear h
 unfold nameB
 cases hq : upperB s.data.toList with
 | false =>
  rw [hq] at HU
  go_enter Tryz.func41,Tryz.ntmps41
  go_wp2_with fail
  refine HU.out.mono ?_
  rintro e w1 ⟨rfl,rfl⟩
  go_wp2
  go_ret
  exact ⟨rfl,H.out⟩
 | true =>
  rw [hq] at HU
  go_enter Tryz.func41,Tryz.ntmps41
  go_wp2_with fail
  refine HU.out.mono ?_
  rintro e w1 ⟨rfl,rfl⟩
  go_wp2_with fail
  refine HK.out.mono ?_
  rintro e w2 ⟨rfl,h2⟩
  have H2 := Lib.hid h2
  clear h2
  go_wp2
  go_ret
  exact ⟨rfl,H2.out⟩
end Go.Proofs.YtbjddomocggjmaaGreat.Sc
end
section
namespace Go.Proofs.YtbjddomocggjmaaGreat.Sc
open Go.RowKit Go.ChangeShapes Go.WideShapes Go.Proofs.YtbjddomocggjmaaGreat.Sep
open Go.Proofs.YtbjddomocggjmaaGreatW.PrintWords
variable {B : Nat} {w0 w : World} {R : HP}
set_option maxHeartbeats 4000000 in
theorem rnames_calls (A : Option Addr) (c : Nat) (l : List ByteArray) (h : S w0 w R) (hC : Kd.string.C w0 A l.length l) (ho : ∀ s ∈ l,oS s) :
  Calls Tryz.prog 86 #[.slice A l.length c] w fun e w' => e = .returned (.bool (wordsB l)) ∧ S w0 w' R := by
 have hl : l.length ≤ 9223372036854775807 := hC.2.1
 have HC := Lib.hid (And.intro hC ho)
 have H := Lib.hid h
 clear h hC ho
 go_enter Tryz.func86,Tryz.ntmps86
 go_wp2
 go_loopw [3] (fun v wr => ∃ x : Int,0 ≤ x ∧ x ≤ l.length ∧ v = .int .i64 x ∧ Hid (S w0 wr R) ∧ Hid (∀ s ∈ l.take x.toNat,lowerB s.data.toList = true)) (fun v _ => l.length - (intOf v).toNat)
 case atStart => exact ⟨0,Int.le_refl _,by omega,rfl,H,Lib.hid (by simp)⟩
 case round =>
  clear H
  obtain ⟨x,hx0,hx1,rfl,HR,HT⟩ := hrel
  by_cases hlt : x < l.length
  ·obtain ⟨ad,cs,rfl,hcl0,hK,hcell0⟩ := Kd.C_get HC.out.1 (⟨#[]⟩ : ByteArray) x hx0 hlt
   have hcell : ∀ (j : Nat) (u : Value),cs[j]? = some u → w0.cell? (ad.add (x.toNat * 1 + j)) = some u := hcell0
   have HG := Lib.hid (getD_mem l (⟨#[]⟩ : ByteArray) x hx0 hlt)
   obtain rfl : cs = [.string (l.getD x.toNat (⟨#[]⟩ : ByteArray))] := hK
   generalize l.getD x.toNat (⟨#[]⟩ : ByteArray) = r at *
   have d0 : wr.cell? (ad.add x.toNat) = some (.string r) := by have h := pw_cell_below HR.out.below (hcell 0 _ rfl); rwa [Nat.mul_one,Nat.add_zero] at h
   have p126 := eq_true hx0
   have q126 : (x < (l.length : Int)) = True := eq_true hlt
   have e1 : (x + 1).toNat = x.toNat + 1 := by omega
   have hm := List.mem_of_getElem? HG.out
   have HL := Lib.hid (fun W => rlower_calls r W (HC.out.2 r hm))
   clear hcell hcell0 hcl0
   go_wp2_with fail
   refine (HL.out _).mono ?_
   rintro e w1 ⟨rfl,rfl⟩
   cases hq : lowerB r.data.toList with
   | false =>
    have HZ : Hid (wordsB l = false) := Lib.hid (by
     unfold wordsB
     rw [List.all_eq_false.2 ⟨r,hm,by rw [hq]; simp⟩,Bool.and_false])
    clear hm hq
    go_wp2
    go_ret
    exact ⟨by rw [HZ.out]; rfl,HR.out⟩
   | true =>
    have HT2 : Hid (∀ s ∈ l.take (x + 1).toNat,lowerB s.data.toList = true) := Lib.hid (by
     rw [e1,List.take_add_one,HG.out]
     intro y hy
     rcases List.mem_append.1 hy with hy | hy
     ·exact HT.out y hy
     ·rw [show y = r by simpa using hy]; exact hq)
    clear hm hq
    go_wp2
    exact ⟨⟨x + 1,by omega,by omega,by go_num,HR,HT2⟩,by simp only [intOf]; omega⟩
  ·have hlt' : (x < (l.length : Int)) = False := eq_false hlt
   have hall : (l.all fun s => lowerB s.data.toList) = true := List.all_eq_true.2 fun s hs => HT.out s (by rw [List.take_of_length_le (by omega)]; exact hs)
   by_cases h256 : l.length ≤ 256
   ·have p2 : decide ((l.length : Int) ≤ 256) = true := decide_eq_true (by omega)
    have HZ : Hid (wordsB l = true) := Lib.hid (by unfold wordsB; rw [hall,decide_eq_true h256]; rfl)
    clear hall h256
    go_wp2
    go_ret
    exact ⟨by rw [HZ.out]; rfl,HR.out⟩
   ·have p2 : decide ((l.length : Int) ≤ 256) = false := decide_eq_false (by omega)
    have HZ : Hid (wordsB l = false) := Lib.hid (by unfold wordsB; rw [hall,decide_eq_false h256]; rfl)
    clear hall h256
    go_wp2
    go_ret
    exact ⟨by rw [HZ.out]; rfl,HR.out⟩
end Go.Proofs.YtbjddomocggjmaaGreat.Sc
end
