/- shape.Keyword, name, printable, rises, words: walked. -/
import Derived.Lib.Strings
import Derived.Test.YtbjddomocggjmaaKA
import Derived.Test.YtbjddomocggjmaaKF
import Derived.Test.YtbjddomocggjmaaKG
namespace Go.Proofs.Ytbjddomocggjmaa.Sc
open Go.RowKit Go.ChangeShapes Go.WideShapes Go.Proofs.Ytbjddomocggjmaa.Sep
open Go.Proofs.YtbjddomocggjmaaW.PrintWords
variable {B : Nat} {w0 w : World} {R : HP}
def keyL : List (List UInt8) := [[66, 79, 79, 76, 69, 65, 78], [73, 78, 84, 69, 71, 69, 82], [69, 78, 85, 77, 69, 82, 65, 84, 69, 68], [78, 85, 76, 76], [66, 73, 84], [83, 84, 82, 73, 78, 71], [79, 67, 84, 69, 84], [73, 65, 53, 83, 116, 114, 105, 110, 103], [83, 69, 81, 85, 69, 78, 67, 69], [79, 70], [67, 72, 79, 73, 67, 69], [83, 73, 90, 69], [70, 82, 79, 77],
  [79, 80, 84, 73, 79, 78, 65, 76], [68, 69, 70, 65, 85, 76, 84], [84, 82, 85, 69], [70, 65, 76, 83, 69], [77, 73, 78], [77, 65, 88], [69, 88, 67, 69, 80, 84], [68, 69, 70, 73, 78, 73, 84, 73, 79, 78, 83], [65, 85, 84, 79, 77, 65, 84, 73, 67], [84, 65, 71, 83], [66, 69, 71, 73, 78], [69, 78, 68], [73, 77, 80, 79, 82, 84, 83]]
def keyB (s : ByteArray) : Bool := keyL.contains s.data.toList
def nameB (s : ByteArray) : Bool := upperB s.data.toList && !keyB s
set_option maxRecDepth 10000 in
theorem keyword_f (s : ByteArray) : PKeyword.shape_Keyword.f 1 s = some (keyB s) := by
  unfold keyB PKeyword.shape_Keyword.f
  simp only [PKeyword.shape_Keyword.j0]
  rw [Lib.toList_data]
  generalize s.data.toList = l
  by_cases h : l ∈ keyL
  · rw [show keyL.contains l = true from List.contains_iff_mem.2 h]
    simp only [keyL, List.mem_cons, List.not_mem_nil, or_false] at h
    rcases h with rfl | rfl | rfl | rfl | rfl | rfl | rfl | rfl | rfl | rfl | rfl | rfl | rfl | rfl | rfl | rfl | rfl | rfl | rfl | rfl | rfl | rfl | rfl | rfl | rfl | rfl <;> decide +kernel
  · rw [show keyL.contains l = false from Bool.eq_false_iff.2 fun hc => h (List.contains_iff_mem.1 hc)]
    simp only [keyL, List.mem_cons, List.not_mem_nil, or_false, not_or] at h
    simp [h]
theorem keyword_calls (s : ByteArray) (h : St B w0 w R) :
    Calls Try.prog 111 #[.string s] w fun e w' => e = .returned (.bool (keyB s)) ∧ St B w0 w' R :=
  (PKeyword.shape_Keyword.calls 1 s _ w (keyword_f s)).mono fun _ _ ⟨h1, h2⟩ => ⟨h1, by obtain ⟨n, rfl⟩ := h2.out; exact h.drewN n⟩
theorem name_calls (s : ByteArray) (h : St B w0 w R) (hs : oS s) :
    Calls Try.prog 70 #[.string s] w fun e w' => e = .returned (.bool (nameB s)) ∧ St B w0 w' R := by
  unfold nameB
  have hu := upper_calls s h hs
  clear h hs
  cases hq : upperB s.data.toList with
  | false =>
    rw [hq] at hu
    clear hq
    go_enter Try.func70, Try.ntmps70
    go_wp2_with fail
    refine hu.mono ?_
    rintro e w1 ⟨rfl, h1⟩
    have H1 := Lib.hid h1
    clear h1
    go_wp2
    go_ret
    exact ⟨rfl, H1.out⟩
  | true =>
    rw [hq] at hu
    clear hq
    go_enter Try.func70, Try.ntmps70
    go_wp2_with fail
    refine hu.mono ?_
    rintro e w1 ⟨rfl, h1⟩
    have H1 := Lib.hid h1
    clear h1
    go_wp2_with fail
    refine (keyword_calls s H1.out).mono ?_
    rintro e w2 ⟨rfl, h2⟩
    have H2 := Lib.hid h2
    clear h2
    go_wp2
    go_ret
    exact ⟨by rw [Bool.true_and]; rfl, H2.out⟩
theorem wrap_in {x : Int} (h0 : -9223372036854775808 ≤ x) (h1 : x ≤ 9223372036854775807) : wrap64 x = x := by
  unfold wrap64
  omega
theorem wrap_nat (i : Nat) (h : i < 9223372036854775807) : wrap64 ((i : Int) + 1) = ((i + 1 : Nat) : Int) := wrap_in (by omega) (by omega)
theorem size_list (s : ByteArray) : s.data.toList.length = s.size := by simp
theorem bt_getD (s : ByteArray) (i : Nat) (h : i < s.size) : bt s i = ((s.data.toList.getD i 0).toNat : Int) := by
  rw [← bt_at s i h]
  congr 1
  rw [List.getD_eq_getElem?_getD, List.getElem?_eq_getElem (by rw [size_list]; exact h)]
  rfl
theorem bt_list (s : ByteArray) (i : Nat) (c : UInt8) (h : s.data.toList[i]? = some c) : bt s i = (c.toNat : Int) := by
  obtain ⟨h1, h2⟩ := List.getElem?_eq_some_iff.1 h
  rw [bt_getD s i (by rw [size_list] at h1; exact h1), List.getD_eq_getElem?_getD, h]
  rfl
def prC (c : UInt8) : Bool := !(decide (c.toNat < 32) || decide (126 < c.toNat))
def printB (s : ByteArray) : Bool := s.data.toList.all prC
def risesB : List UInt8 → Bool
  | a :: b :: r => !decide (b.toNat ≤ a.toNat) && risesB (b :: r)
  | _ => true
theorem print_ev (s : ByteArray) (hs : oS s) (n : Nat) : ∀ i : Nat, i + n = s.size → Ev (fun k => Pprintable.shape_printable.l0 k s (s.size : Int) i) ((s.data.toList.drop i).all prC) := by
  have hM : s.size ≤ 140737488355328 := hs
  induction n with
  | zero =>
    intro i hi
    refine Ev.step (f := fun _ => some true) (fun k => ?_) ?_
    · simp only [Pprintable.shape_printable.l0]
      rw [if_neg (by omega)]
    · rw [List.drop_of_length_le (by rw [size_list]; omega)]
      exact Ev.now _
  | succ n ih =>
    intro i hi
    have hlt : i < s.data.toList.length := by rw [size_list]; omega
    have hd := List.drop_eq_getElem_cons hlt
    have hb := bt_list s i _ (List.getElem?_eq_getElem hlt)
    generalize s.data.toList[i] = c at *
    rw [hd, List.all_cons]
    have hw := wrap_nat i (by omega)
    by_cases h1 : c.toNat < 32
    · rw [show prC c = false by unfold prC; rw [decide_eq_true h1]; rfl, Bool.false_and]
      refine Ev.step (f := fun _ => some false) (fun k => ?_) (Ev.now _)
      simp only [Pprintable.shape_printable.l0]
      rw [if_pos (by omega), if_pos (by omega), if_pos (by omega), hb, if_pos (by omega)]
    · by_cases h2 : 126 < c.toNat
      · rw [show prC c = false by unfold prC; rw [decide_eq_true h2, Bool.or_true]; rfl, Bool.false_and]
        refine Ev.step (f := fun _ => some false) (fun k => ?_) (Ev.now _)
        simp only [Pprintable.shape_printable.l0]
        rw [if_pos (by omega), if_pos (by omega), if_pos (by omega), hb, if_neg (by omega), if_pos (by omega)]
      · rw [show prC c = true by unfold prC; rw [decide_eq_false h1, decide_eq_false h2]; rfl, Bool.true_and]
        refine Ev.step (fun k => ?_) (ih (i + 1) (by omega))
        simp only [Pprintable.shape_printable.l0]
        rw [if_pos (by omega), if_pos (by omega), if_pos (by omega), hb, if_neg (by omega), if_neg (by omega), hw]
theorem printable_calls (s : ByteArray) (h : St B w0 w R) (hs : oS s) :
    Calls Try.prog 132 #[.string s] w fun e w' => e = .returned (.bool (printB s)) ∧ St B w0 w' R := by
  obtain ⟨k, hk⟩ := (print_ev s hs s.size 0 (by omega)).rounds
  exact (Pprintable.shape_printable.calls k s _ w hk).mono fun _ _ ⟨h1, h2⟩ => ⟨h1, by obtain ⟨n, rfl⟩ := h2.out; exact h.drewN n⟩
theorem rises_ev (s : ByteArray) (hs : oS s) (n : Nat) : ∀ i : Nat, 0 < i → i + n = s.size ∨ (s.size = 0 ∧ i = 1) → Ev (fun k => Prises.shape_rises.l0 k s i) (risesB (s.data.toList.drop (i - 1))) := by
  have hM : s.size ≤ 140737488355328 := hs
  induction n with
  | zero =>
    intro i h0 hi
    refine Ev.step (f := fun _ => some true) (fun k => ?_) ?_
    · simp only [Prises.shape_rises.l0]
      rw [if_neg (by omega)]
    · have e : risesB (s.data.toList.drop (i - 1)) = true := by
        have hl : (s.data.toList.drop (i - 1)).length ≤ 1 := by rw [List.length_drop, size_list]; omega
        revert hl
        generalize s.data.toList.drop (i - 1) = l
        intro hl
        match l, hl with
        | [], _ => rfl
        | [a], _ => rfl
      rw [e]
      exact Ev.now _
  | succ n ih =>
    intro i h0 hi
    by_cases hz : s.size = 0
    · have e : s.data.toList = [] := List.eq_nil_of_length_eq_zero (by rw [size_list, hz])
      rw [e, List.drop_nil]
      refine Ev.step (f := fun _ => some true) (fun k => ?_) (Ev.now _)
      simp only [Prises.shape_rises.l0]
      rw [if_neg (by omega)]
    have hlt : i < s.data.toList.length := by rw [size_list]; omega
    have hlt1 : i - 1 < s.data.toList.length := by omega
    have hd := List.drop_eq_getElem_cons hlt
    have hd1 := List.drop_eq_getElem_cons hlt1
    have hb := bt_list s i _ (List.getElem?_eq_getElem hlt)
    have hb1 := bt_list s (i - 1) _ (List.getElem?_eq_getElem hlt1)
    rw [show i - 1 + 1 = i by omega] at hd1
    have ihn := ih (i + 1) (by omega) (.inl (by omega))
    rw [show i + 1 - 1 = i by omega] at ihn
    generalize s.data.toList[i] = c at *
    generalize s.data.toList[i - 1] = b at *
    have hw := wrap_nat i (by omega)
    have hw1 : wrap64 ((i : Int) - 1) = ((i - 1 : Nat) : Int) := by rw [wrap_in (by omega) (by omega)]; omega
    rw [hd1, hd, risesB]
    rw [hd] at ihn
    by_cases h1 : c.toNat ≤ b.toNat
    · rw [decide_eq_true h1, Bool.not_true, Bool.false_and]
      refine Ev.step (f := fun _ => some false) (fun k => ?_) (Ev.now _)
      simp only [Prises.shape_rises.l0]
      rw [if_pos (by omega), hw1, if_pos (by omega), if_pos (by omega), if_pos (by omega), hb, hb1, if_pos (by omega)]
    · rw [decide_eq_false h1, Bool.not_false, Bool.true_and]
      refine Ev.step (fun k => ?_) ihn
      simp only [Prises.shape_rises.l0]
      rw [if_pos (by omega), hw1, if_pos (by omega), if_pos (by omega), if_pos (by omega), hb, hb1, if_neg (by omega), hw]
theorem rises_calls (s : ByteArray) (h : St B w0 w R) (hs : oS s) :
    Calls Try.prog 133 #[.string s] w fun e w' => e = .returned (.bool (risesB s.data.toList)) ∧ St B w0 w' R := by
  have hr := rises_ev s hs (s.size - 1) 1 (by omega) (by omega)
  obtain ⟨k, hk⟩ := hr.rounds
  exact (Prises.shape_rises.calls k s _ w hk).mono fun _ _ ⟨h1, h2⟩ => ⟨h1, by obtain ⟨n, rfl⟩ := h2.out; exact h.drewN n⟩
def wordsB (l : List ByteArray) : Bool := decide (l.length ≤ 256) && l.all fun s => lowerB s.data.toList
theorem bad_word_tells (l : List ByteArray) (ho : ∀ s ∈ l, oS s) : TellsS w0 R 142 #[] l (fun s => !lowerB s.data.toList) := by
  intro W s h hs
  have hl := lower_calls s h (ho s hs)
  clear h
  show Calls Try.prog 142 #[.string s] W _
  go_enter Try.func142, Try.ntmps142
  go_wp2_with fail
  refine hl.mono ?_
  rintro e w1 ⟨rfl, h1⟩
  have H1 := Lib.hid h1
  clear h1
  go_wp2
  go_ret
  exact ⟨rfl, H1.out⟩
theorem words_calls (A : Option Addr) (c : Nat) (l : List ByteArray) (h : S w0 w R) (hC : Kd.string.C w0 A l.length l) (ho : ∀ s ∈ l, oS s) :
    Calls Try.prog 134 #[.slice A l.length c] w fun e w' => e = .returned (.bool (wordsB l)) ∧ S w0 w' R := by
  have eg : ∀ args w, (callFunc 142 args).run Try.prog w = .ok (.enter 142 args) w := enters_of Try.func142 (by kernel_rfl) rfl
  have hl : l.length ≤ 9223372036854775807 := hC.2.1
  have HC := Lib.hid (contains_strs _ _ eg _ A c l hC h (bad_word_tells l ho))
  have H := Lib.hid h
  unfold wordsB
  rw [all_any]
  clear h hC ho eg
  by_cases q : l.length ≤ 256
  · have p1 : decide ((l.length : Int) ≤ 256) = true := decide_eq_true (by omega)
    rw [decide_eq_true q, Bool.true_and]
    go_enter Try.func134, Try.ntmps134
    go_wp2_with fail
    refine HC.out.mono ?_
    rintro e w1 ⟨rfl, h1⟩
    have H1 := Lib.hid h1
    clear h1
    go_wp2
    go_ret
    exact ⟨rfl, H1.out⟩
  · have p1 : decide ((l.length : Int) ≤ 256) = false := decide_eq_false (by omega)
    rw [decide_eq_false q, Bool.false_and]
    go_enter Try.func134, Try.ntmps134
    go_wp2
    go_ret
    exact ⟨rfl, H.out⟩
end Go.Proofs.Ytbjddomocggjmaa.Sc
