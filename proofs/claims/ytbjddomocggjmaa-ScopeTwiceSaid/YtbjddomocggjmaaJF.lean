/- append and Clone at the schemas' types: what is made, and what it reads as. -/
import Derived.Lib.Strings
import Derived.Test.YtbjddomocggjmaaJA
import Derived.Test.YtbjddomocggjmaaJD
import Derived.Test.YtbjddomocggjmaaJE
section
namespace Go.Proofs.Ytbjddomocggjmaa.Sc
open Go.RowKit Go.ChangeShapes Go.WideShapes Go.Proofs.Ytbjddomocggjmaa.Sep
open Go.Proofs.YtbjddomocggjmaaW.PrintWords
variable {B : Nat} {w0 w : World} {R : HP}
def keyL : List (List UInt8) := [[66, 79, 79, 76, 69, 65, 78], [73, 78, 84, 69, 71, 69, 82], [69, 78, 85, 77, 69, 82, 65, 84, 69, 68], [78, 85, 76, 76], [66, 73, 84], [83, 84, 82, 73, 78, 71], [79, 67, 84, 69, 84], [73, 65, 53, 83, 116, 114, 105, 110, 103], [83, 69, 81, 85, 69, 78, 67, 69], [79, 70], [67, 72, 79, 73, 67, 69], [83, 73, 90, 69], [70, 82, 79, 77],
  [79, 80, 84, 73, 79, 78, 65, 76], [68, 69, 70, 65, 85, 76, 84], [84, 82, 85, 69], [70, 65, 76, 83, 69], [77, 73, 78], [77, 65, 88], [69, 88, 67, 69, 80, 84], [68, 69, 70, 73, 78, 73, 84, 73, 79, 78, 83], [65, 85, 84, 79, 77, 65, 84, 73, 67], [84, 65, 71, 83], [66, 69, 71, 73, 78], [69, 78, 68], [73, 77, 80, 79, 82, 84, 83]]
def keyB (s : ByteArray) : Bool := keyL.contains s.data.toList
def nameB (s : ByteArray) : Bool := upperB s.data.toList && !keyB s
set_option maxRecDepth 10000 in
theorem keyword_f (s : ByteArray) : PKeyword.shape_Keyword.f 1 s = some (keyB s) := by
  unfold keyB PKeyword.shape_Keyword.f
  simp only [PKeyword.shape_Keyword.j0]
  rw [Lib.toList_data]
  generalize s.data.toList = l
  by_cases h : l ∈ keyL
  · rw [show keyL.contains l = true from List.contains_iff_mem.2 h]
    simp only [keyL, List.mem_cons, List.not_mem_nil, or_false] at h
    rcases h with rfl | rfl | rfl | rfl | rfl | rfl | rfl | rfl | rfl | rfl | rfl | rfl | rfl | rfl | rfl | rfl | rfl | rfl | rfl | rfl | rfl | rfl | rfl | rfl | rfl | rfl <;> decide +kernel
  · rw [show keyL.contains l = false from Bool.eq_false_iff.2 fun hc => h (List.contains_iff_mem.1 hc)]
    simp only [keyL, List.mem_cons, List.not_mem_nil, or_false, not_or] at h
    simp [h]
theorem keyword_calls (s : ByteArray) (h : St B w0 w R) :
    Calls Try.prog 111 #[.string s] w fun e w' => e = .returned (.bool (keyB s)) ∧ St B w0 w' R :=
  (PKeyword.shape_Keyword.calls 1 s _ w (keyword_f s)).mono fun _ _ ⟨h1, h2⟩ => ⟨h1, by obtain ⟨n, rfl⟩ := h2.out; exact h.drewN n⟩
theorem name_calls (s : ByteArray) (h : St B w0 w R) (hs : oS s) :
    Calls Try.prog 70 #[.string s] w fun e w' => e = .returned (.bool (nameB s)) ∧ St B w0 w' R := by
  unfold nameB
  have hu := upper_calls s h hs
  clear h hs
  cases hq : upperB s.data.toList with
  | false =>
    rw [hq] at hu
    clear hq
    go_enter Try.func70, Try.ntmps70
    go_wp2_with fail
    refine hu.mono ?_
    rintro e w1 ⟨rfl, h1⟩
    have H1 := Lib.hid h1
    clear h1
    go_wp2
    go_ret
    exact ⟨rfl, H1.out⟩
  | true =>
    rw [hq] at hu
    clear hq
    go_enter Try.func70, Try.ntmps70
    go_wp2_with fail
    refine hu.mono ?_
    rintro e w1 ⟨rfl, h1⟩
    have H1 := Lib.hid h1
    clear h1
    go_wp2_with fail
    refine (keyword_calls s H1.out).mono ?_
    rintro e w2 ⟨rfl, h2⟩
    have H2 := Lib.hid h2
    clear h2
    go_wp2
    go_ret
    exact ⟨by rw [Bool.true_and]; rfl, H2.out⟩
theorem wrap_in {x : Int} (h0 : -9223372036854775808 ≤ x) (h1 : x ≤ 9223372036854775807) : wrap64 x = x := by
  unfold wrap64
  omega
theorem wrap_nat (i : Nat) (h : i < 9223372036854775807) : wrap64 ((i : Int) + 1) = ((i + 1 : Nat) : Int) := wrap_in (by omega) (by omega)
theorem size_list (s : ByteArray) : s.data.toList.length = s.size := by simp
theorem bt_getD (s : ByteArray) (i : Nat) (h : i < s.size) : bt s i = ((s.data.toList.getD i 0).toNat : Int) := by
  rw [← bt_at s i h]
  congr 1
  rw [List.getD_eq_getElem?_getD, List.getElem?_eq_getElem (by rw [size_list]; exact h)]
  rfl
theorem bt_list (s : ByteArray) (i : Nat) (c : UInt8) (h : s.data.toList[i]? = some c) : bt s i = (c.toNat : Int) := by
  obtain ⟨h1, h2⟩ := List.getElem?_eq_some_iff.1 h
  rw [bt_getD s i (by rw [size_list] at h1; exact h1), List.getD_eq_getElem?_getD, h]
  rfl
def prC (c : UInt8) : Bool := !(decide (c.toNat < 32) || decide (126 < c.toNat))
def printB (s : ByteArray) : Bool := s.data.toList.all prC
def risesB : List UInt8 → Bool
  | a :: b :: r => !decide (b.toNat ≤ a.toNat) && risesB (b :: r)
  | _ => true
theorem print_ev (s : ByteArray) (hs : oS s) (n : Nat) : ∀ i : Nat, i + n = s.size → Ev (fun k => Pprintable.shape_printable.l0 k s (s.size : Int) i) ((s.data.toList.drop i).all prC) := by
  have hM : s.size ≤ 140737488355328 := hs
  induction n with
  | zero =>
    intro i hi
    refine Ev.step (f := fun _ => some true) (fun k => ?_) ?_
    · simp only [Pprintable.shape_printable.l0]
      rw [if_neg (by omega)]
    · rw [List.drop_of_length_le (by rw [size_list]; omega)]
      exact Ev.now _
  | succ n ih =>
    intro i hi
    have hlt : i < s.data.toList.length := by rw [size_list]; omega
    have hd := List.drop_eq_getElem_cons hlt
    have hb := bt_list s i _ (List.getElem?_eq_getElem hlt)
    generalize s.data.toList[i] = c at *
    rw [hd, List.all_cons]
    have hw := wrap_nat i (by omega)
    by_cases h1 : c.toNat < 32
    · rw [show prC c = false by unfold prC; rw [decide_eq_true h1]; rfl, Bool.false_and]
      refine Ev.step (f := fun _ => some false) (fun k => ?_) (Ev.now _)
      simp only [Pprintable.shape_printable.l0]
      rw [if_pos (by omega), if_pos (by omega), if_pos (by omega), hb, if_pos (by omega)]
    · by_cases h2 : 126 < c.toNat
      · rw [show prC c = false by unfold prC; rw [decide_eq_true h2, Bool.or_true]; rfl, Bool.false_and]
        refine Ev.step (f := fun _ => some false) (fun k => ?_) (Ev.now _)
        simp only [Pprintable.shape_printable.l0]
        rw [if_pos (by omega), if_pos (by omega), if_pos (by omega), hb, if_neg (by omega), if_pos (by omega)]
      · rw [show prC c = true by unfold prC; rw [decide_eq_false h1, decide_eq_false h2]; rfl, Bool.true_and]
        refine Ev.step (fun k => ?_) (ih (i + 1) (by omega))
        simp only [Pprintable.shape_printable.l0]
        rw [if_pos (by omega), if_pos (by omega), if_pos (by omega), hb, if_neg (by omega), if_neg (by omega), hw]
theorem printable_calls (s : ByteArray) (h : St B w0 w R) (hs : oS s) :
    Calls Try.prog 132 #[.string s] w fun e w' => e = .returned (.bool (printB s)) ∧ St B w0 w' R := by
  obtain ⟨k, hk⟩ := (print_ev s hs s.size 0 (by omega)).rounds
  exact (Pprintable.shape_printable.calls k s _ w hk).mono fun _ _ ⟨h1, h2⟩ => ⟨h1, by obtain ⟨n, rfl⟩ := h2.out; exact h.drewN n⟩
theorem rises_ev (s : ByteArray) (hs : oS s) (n : Nat) : ∀ i : Nat, 0 < i → i + n = s.size ∨ (s.size = 0 ∧ i = 1) → Ev (fun k => Prises.shape_rises.l0 k s i) (risesB (s.data.toList.drop (i - 1))) := by
  have hM : s.size ≤ 140737488355328 := hs
  induction n with
  | zero =>
    intro i h0 hi
    refine Ev.step (f := fun _ => some true) (fun k => ?_) ?_
    · simp only [Prises.shape_rises.l0]
      rw [if_neg (by omega)]
    · have e : risesB (s.data.toList.drop (i - 1)) = true := by
        have hl : (s.data.toList.drop (i - 1)).length ≤ 1 := by rw [List.length_drop, size_list]; omega
        revert hl
        generalize s.data.toList.drop (i - 1) = l
        intro hl
        match l, hl with
        | [], _ => rfl
        | [a], _ => rfl
      rw [e]
      exact Ev.now _
  | succ n ih =>
    intro i h0 hi
    by_cases hz : s.size = 0
    · have e : s.data.toList = [] := List.eq_nil_of_length_eq_zero (by rw [size_list, hz])
      rw [e, List.drop_nil]
      refine Ev.step (f := fun _ => some true) (fun k => ?_) (Ev.now _)
      simp only [Prises.shape_rises.l0]
      rw [if_neg (by omega)]
    have hlt : i < s.data.toList.length := by rw [size_list]; omega
    have hlt1 : i - 1 < s.data.toList.length := by omega
    have hd := List.drop_eq_getElem_cons hlt
    have hd1 := List.drop_eq_getElem_cons hlt1
    have hb := bt_list s i _ (List.getElem?_eq_getElem hlt)
    have hb1 := bt_list s (i - 1) _ (List.getElem?_eq_getElem hlt1)
    rw [show i - 1 + 1 = i by omega] at hd1
    have ihn := ih (i + 1) (by omega) (.inl (by omega))
    rw [show i + 1 - 1 = i by omega] at ihn
    generalize s.data.toList[i] = c at *
    generalize s.data.toList[i - 1] = b at *
    have hw := wrap_nat i (by omega)
    have hw1 : wrap64 ((i : Int) - 1) = ((i - 1 : Nat) : Int) := by rw [wrap_in (by omega) (by omega)]; omega
    rw [hd1, hd, risesB]
    rw [hd] at ihn
    by_cases h1 : c.toNat ≤ b.toNat
    · rw [decide_eq_true h1, Bool.not_true, Bool.false_and]
      refine Ev.step (f := fun _ => some false) (fun k => ?_) (Ev.now _)
      simp only [Prises.shape_rises.l0]
      rw [if_pos (by omega), hw1, if_pos (by omega), if_pos (by omega), if_pos (by omega), hb, hb1, if_pos (by omega)]
    · rw [decide_eq_false h1, Bool.not_false, Bool.true_and]
      refine Ev.step (fun k => ?_) ihn
      simp only [Prises.shape_rises.l0]
      rw [if_pos (by omega), hw1, if_pos (by omega), if_pos (by omega), if_pos (by omega), hb, hb1, if_neg (by omega), hw]
theorem rises_calls (s : ByteArray) (h : St B w0 w R) (hs : oS s) :
    Calls Try.prog 133 #[.string s] w fun e w' => e = .returned (.bool (risesB s.data.toList)) ∧ St B w0 w' R := by
  have hr := rises_ev s hs (s.size - 1) 1 (by omega) (by omega)
  obtain ⟨k, hk⟩ := hr.rounds
  exact (Prises.shape_rises.calls k s _ w hk).mono fun _ _ ⟨h1, h2⟩ => ⟨h1, by obtain ⟨n, rfl⟩ := h2.out; exact h.drewN n⟩
def wordsB (l : List ByteArray) : Bool := decide (l.length ≤ 256) && l.all fun s => lowerB s.data.toList
theorem bad_word_tells (l : List ByteArray) (ho : ∀ s ∈ l, oS s) : TellsS w0 R 142 #[] l (fun s => !lowerB s.data.toList) := by
  intro W s h hs
  have hl := lower_calls s h (ho s hs)
  clear h
  show Calls Try.prog 142 #[.string s] W _
  go_enter Try.func142, Try.ntmps142
  go_wp2_with fail
  refine hl.mono ?_
  rintro e w1 ⟨rfl, h1⟩
  have H1 := Lib.hid h1
  clear h1
  go_wp2
  go_ret
  exact ⟨rfl, H1.out⟩
theorem words_calls (A : Option Addr) (c : Nat) (l : List ByteArray) (h : S w0 w R) (hC : Kd.string.C w0 A l.length l) (ho : ∀ s ∈ l, oS s) :
    Calls Try.prog 134 #[.slice A l.length c] w fun e w' => e = .returned (.bool (wordsB l)) ∧ S w0 w' R := by
  have eg : ∀ args w, (callFunc 142 args).run Try.prog w = .ok (.enter 142 args) w := enters_of Try.func142 (by kernel_rfl) rfl
  have hl : l.length ≤ 9223372036854775807 := hC.2.1
  have HC := Lib.hid (contains_strs _ _ eg _ A c l hC h (bad_word_tells l ho))
  have H := Lib.hid h
  unfold wordsB
  rw [all_any]
  clear h hC ho eg
  by_cases q : l.length ≤ 256
  · have p1 : decide ((l.length : Int) ≤ 256) = true := decide_eq_true (by omega)
    rw [decide_eq_true q, Bool.true_and]
    go_enter Try.func134, Try.ntmps134
    go_wp2_with fail
    refine HC.out.mono ?_
    rintro e w1 ⟨rfl, h1⟩
    have H1 := Lib.hid h1
    clear h1
    go_wp2
    go_ret
    exact ⟨rfl, H1.out⟩
  · have p1 : decide ((l.length : Int) ≤ 256) = false := decide_eq_false (by omega)
    rw [decide_eq_false q, Bool.false_and]
    go_enter Try.func134, Try.ntmps134
    go_wp2
    go_ret
    exact ⟨rfl, H.out⟩
end Go.Proofs.Ytbjddomocggjmaa.Sc
end
section
namespace Go.Proofs.Ytbjddomocggjmaa.Sc
open Go.RowKit Go.ChangeShapes Go.WideShapes Go.Proofs.Ytbjddomocggjmaa.Sep
open Go.Proofs.YtbjddomocggjmaaW.PrintWords
variable {B : Nat} {w0 w w1 : World} {R : HP}
/-- What is so in every world in which what is owned, and what lies below the base, is as it is here. -/
def Vw (w0 : World) (B : Nat) (p : World → Prop) : HP where
  on w F := ∀ wv, Below B w0 wv → (∀ b, F b → wv.heap[b]? = w.heap[b]?) → p wv
  loc := fun h hw wv hb hv => h wv hb fun b hF => (hv b hF).trans (hw b hF)
  up := fun h hG wv hb hv => h wv hb fun b hF => hv b (hG b hF)
theorem Vw.get {p : World → Prop} (h : St B w0 w (Vw w0 B p • R)) : p w := by
  obtain ⟨hb, _, F, _, F1, F2, h1, _, _, ha, _⟩ := h
  exact ha w hb fun _ _ => rfl
theorem Vw.base {p : World → Prop} (h : St B w0 w R) (hp : ∀ wv, Below B w0 wv → p wv) : St B w0 w (Vw w0 B p • R) :=
  (h.pad.swap).mapFirst fun _ _ _ wv hb _ => hp wv hb
theorem Vw.map {p q : World → Prop} (h : St B w0 w (Vw w0 B p • R)) (hpq : ∀ wv, Below B w0 wv → p wv → q wv) : St B w0 w (Vw w0 B q • R) :=
  h.mapFirst fun _ _ hv wv hb hF => hpq wv hb (hv wv hb hF)
theorem Vw.join {p q : World → Prop} (h : St B w0 w (Vw w0 B p • (Vw w0 B q • R))) : St B w0 w (Vw w0 B (fun W => p W ∧ q W) • R) := by
  refine (h.assoc').mapFirst fun w F hh wv hb hv => ?_
  obtain ⟨F1, F2, h1, h2, -, hp, hq⟩ := hh
  exact ⟨hp wv hb fun b hF => hv b (h1 b hF), hq wv hb fun b hF => hv b (h2 b hF)⟩
/-- A row, and what its elements lead to, as something that is read. -/
theorem Vw.row {α : Type} {d : Kd α} {e : TypeId} {v : Value} {n : Nat} {l : List α} {xs : List Value} (hz : 0 < d.sz) (hn : n = l.length) (h : St B w0 w (RowV e d.sz v n xs • (Vw w0 B (fun W => Reps (d.K W) d.sz l xs) • R))) :
    St B w0 w (Vw w0 B (fun W => ∃ A c, v = .slice A l.length c ∧ l.length ≤ c ∧ c ≤ maxLen ∧ d.C W A l.length l) • R) := by
  subst hn
  refine (h.assoc').mapFirst fun w F hh wv hb hv => ?_
  obtain ⟨F1, F2, h1, h2, -, hr, hp⟩ := hh
  have hR := hp wv hb fun b hF => hv b (h2 b hF)
  have hrow : RowOn e d.sz v l.length xs wv F1 := (RowV e d.sz v l.length xs).loc hr fun b hF => hv b (h1 b hF)
  obtain ⟨q1, A, c, rfl, q2, q3, q4⟩ := hrow.reads
  refine ⟨A, c, rfl, q2, q3, rfl, by simp only [maxLen] at q3; omega, fun h0 => ?_⟩
  have hx0 : 0 < xs.length := by rw [q1]; exact Nat.mul_pos h0 hz
  obtain ⟨ad, rfl, -⟩ := q4 0 _ (List.getElem?_eq_getElem hx0)
  refine ⟨ad, rfl, fun j p hp => ⟨_, ?_, hR.2 j p hp, fun i u hu => ?_⟩⟩
  · have hj := (List.getElem?_eq_some_iff.1 hp).1
    have : j * d.sz + d.sz ≤ xs.length := by rw [q1, ← Nat.succ_mul]; exact Nat.mul_le_mul_right _ hj
    rw [List.length_take, List.length_drop]
    omega
  · rw [List.getElem?_take] at hu
    split at hu
    · rw [List.getElem?_drop] at hu
      obtain ⟨ad', e, h5⟩ := q4 _ u hu
      cases e
      exact h5
    · cases hu
/-- What is read in the world at hand stays so wherever the base is that world. -/
theorem c_rows {α : Type} {d : Kd α} {A : Option Addr} {l : List α} (h : d.C w A l.length l) : ∃ xs, Reps (d.K w) d.sz l xs ∧ xs.length = l.length * d.sz ∧ ∀ j u, xs[j]? = some u → ∃ ad, A = some ad ∧ w.cell? (ad.add j) = some u := by
  cases l with
  | nil => exact ⟨[], Reps.none _ _, by simp, fun j u hu => by simp at hu⟩
  | cons a l =>
    obtain ⟨ad, rfl, -⟩ := h.2.2 (by simp)
    obtain ⟨xs, h1, h2⟩ := ReadsRow.inner_ h
    exact ⟨xs, h1, h1.1, fun j u hu => ⟨ad, rfl, h2 j u hu⟩⟩
theorem reps_one {α : Type} {d : Kd α} {l : List α} {xs : List Value} (h : Reps (d.K w) d.sz l xs) : ∀ u ∈ xs, u.oneCell' = true := by
  intro u hu
  obtain ⟨j, hj⟩ := List.getElem?_of_mem hu
  have hjl := (List.getElem?_eq_some_iff.1 hj).1
  rw [h.1] at hjl
  have hz : 0 < d.sz := Nat.pos_of_ne_zero fun h0 => by rw [h0, Nat.mul_zero] at hjl; omega
  have hq : j / d.sz < l.length := Nat.div_lt_of_lt_mul (by rwa [Nat.mul_comm] at hjl)
  have hk := h.2 (j / d.sz) _ (List.getElem?_eq_getElem hq)
  refine d.K_one hk u (List.mem_of_getElem? (i := j % d.sz) ?_)
  rw [List.getElem?_take, if_pos (Nat.mod_lt _ hz), List.getElem?_drop, Nat.mul_comm, Nat.div_add_mod]
  exact hj
/-- It holds a goal back. -/
structure Held (p : Prop) : Prop where
  out : p
theorem info_parts {P : Program} {t : TypeId} {z : Value} {n b : Nat} (h : (P.info? t).map (fun i => (i.zero, i.size, i.bytes)) = some (some z, n, b)) : ∃ i, P.info? t = some i ∧ i.zero = some z ∧ i.size = n ∧ i.bytes = b := by
  rw [Option.map_eq_some_iff] at h
  obtain ⟨i, h1, h2⟩ := h
  simp only [Prod.mk.injEq] at h2
  exact ⟨i, h1, h2.1, h2.2.1, h2.2.2⟩
section
variable {P : Program} {e : TypeId} {size n : Nat} {v : Value} {xs : List Value}
theorem run_append2 (t ty : TypeId) (i : TypeInfo) (z : Value) (bytes : Nat) (ht : P.underlying t = some (.slice e)) (hi : P.info? e = some i) (hz : i.zero = some z)
    (hsize : i.size = size) (hby : i.bytes = bytes) (hzs : z.cells.size = size) (hsz : 0 < size)
    (h : St B w0 w (RowV e size v n xs • R)) {SA : Option Addr} {m c : Nat} {news : List Value} (hl0 : news.length = m * size) (hcell : ∀ j u, news[j]? = some u → ∃ ad, SA = some ad ∧ w.cell? (ad.add j) = some u) (h1 : ∀ u ∈ news, u.oneCell' = true)
    (h63 : n + m ≤ maxLen) (hbytes : (n + m) * bytes ≤ 140737488355328) :
    ∃ v' w', (Builtin.append_ #[t, t] ty #[v, .slice SA m c]).run P w = .ok v' w' ∧ St B w0 w' (RowV e size v' (n + m) (xs ++ news) • R) := by
  subst hsize
  subst hby
  have hl := hl0
  have hxl := h.rowLen
  have h63' : n + m ≤ 9223372036854775807 := by simp only [maxLen] at h63; omega
  by_cases hm : m = 0
  · subst hm
    have hnews : news = [] := List.eq_nil_of_length_eq_zero (by omega)
    subst hnews
    refine ⟨v, w, ?_, by simpa using h⟩
    rcases h.rowForm with ⟨rfl, rfl, rfl⟩ | ⟨g, cap, cur, lo, hi', rfl, hf, hnc, hc, hs, hx, hb⟩
    · exact run_append_empty w t ty e i ht hi none (by simp) 0 0 (Nat.le_refl _) SA c
    · exact run_append_empty w t ty e i ht hi _ (by rintro a ⟨⟩; exact ⟨g, rfl⟩) n cap hnc SA c
  · have hpos : 0 < news.length := by rw [hl]; exact Nat.mul_pos (by omega) hsz
    obtain ⟨ad, rfl, -⟩ := hcell 0 news[0] (by simp [List.getElem?_eq_getElem hpos])
    have hnews : ∀ j u, news[j]? = some u → w.cell? (ad.add j) = some u := fun j u hu => by
      obtain ⟨ad', e', h'⟩ := hcell j u hu
      cases e'
      exact h'
    have grown : ∀ (old : Nat), old < n + m → St B w0 w R →
        St B w0 (w.drew.alloc (.cells (xs.toArray ++ news.toArray ++ Builtin.zeroCells z.cells (grownCap w (n + m) old e - (n + m))) e))
          (RowV e i.size (.slice (some ⟨w.heap.size, 0, none⟩) (n + m) (grownCap w (n + m) old e)) (n + m) (xs ++ news) • R) := by
      intro old ho hR
      have hge := grownCap_ge w (n + m) old e
      have hcm : grownCap w (n + m) old e ≤ maxLen := grownCap_le_maxLen w (n + m) old e h63
      have h2 := hR.drew.alloc (.cells (xs.toArray ++ news.toArray ++ Builtin.zeroCells z.cells (grownCap w (n + m) old e - (n + m))) e)
      refine St.blkRow h2 hge hcm ?_ (.inr (Nat.le_refl _)) ?_
      · simp only [Array.size_append, List.size_toArray, size_zeroCells, hzs, hxl, hl, ← Nat.add_mul]
        congr 1
        omega
      · simp only [Array.toList_append, List.append_assoc]
        rw [← List.append_assoc, List.take_append_of_le_length (by rw [List.length_append, hxl, hl, Nat.add_mul]; exact Nat.le_refl _)]
        exact List.take_of_length_le (by rw [List.length_append, hxl, hl, Nat.add_mul]; exact Nat.le_refl _)
    rcases h.rowForm with ⟨rfl, rfl, rfl⟩ | ⟨g, cap, cur, lo, hi', rfl, hf, hnc, hc, hs, hx, hb⟩
    · have hr := run_append_nil (P := P) w t ty e i z ht hi hz ad m c news hl hnews (by omega) (by omega) (by have hb := hbytes; simp only [Nat.zero_add] at hb; omega)
      have hg := grown 0 (by omega) h.drop
      simp only [Nat.zero_add, List.nil_append, Array.empty_append] at hg ⊢
      exact ⟨_, _, hr, hg⟩
    · by_cases hroom : n + m ≤ cap
      · have hfit : n * i.size + news.length ≤ cur.size := by rw [hl, hs, ← Nat.add_mul]; exact Nat.mul_le_mul_right _ hroom
        have hr := run_append_room_off (P := P) w t ty e i ht hi g n cap lo hi' cur hb.block hf ad m c news hl hnews h1 hroom hfit
        refine ⟨_, _, hr, ?_⟩
        have hst : St B w0 (w.setRow g (cur.toList.take (n * i.size) ++ news ++ cur.toList.drop (n * i.size + news.length)).toArray)
            (Blk g (.cells (cur.toList.take (n * i.size) ++ news ++ cur.toList.drop (n * i.size + news.length)).toArray e (lo, hi')) • R) :=
          hb.step (by simp [World.setRow]) rfl rfl rfl fun F hF ⟨hf, hb'⟩ => ⟨fun k hk hn => setRow_other w g k _ (fun e => hn (by subst e; exact hf)), F, fun b hb => .inl hb, hf, setRow_heap w g cur _ e _ hb'⟩
        have hsz2 : (cur.toList.take (n * i.size) ++ news ++ cur.toList.drop (n * i.size + news.length)).toArray.size = cur.size := by
          simp only [List.size_toArray, List.length_append, List.length_take, List.length_drop, Array.length_toList]
          omega
        refine St.blkRow hst hroom hc (by rw [hsz2, hs]) (by rw [hsz2]; exact hf) ?_
        rw [hx, Nat.add_mul, ← hl, ← hxl, ← List.length_append]
        exact List.take_left
      · have holds : ∀ j u, xs[j]? = some u → w.cell? ((⟨g, 0, none⟩ : Addr).add j) = some u := fun j u hu => by
          obtain ⟨_, SA, c, e1, _, _, hh⟩ := h.reads
          cases e1
          obtain ⟨ad', e2, h'⟩ := hh j u hu
          cases e2
          exact h'
        have hr := run_append_grow (P := P) w t ty e i z ht hi hz ⟨g, 0, none⟩ n cap xs hxl holds ad m c news hl hnews (by omega) (by omega) (growslice_fits (by omega) hbytes)
        exact ⟨_, _, hr, grown cap (by omega) h.drop⟩
end
/-- append of what is read, at Oper.wp. -/
theorem wp_append {P : Program} {o : Oper} {a : Act} {K : Act → World → Prop} {Q : Exit → Act → World → Prop} (s x : Operand) {t e : TypeId} (ht : P.underlying t = some (.slice e)) {z : Value} {size bytes : Nat}
    (hi : (P.info? e).map (fun i => (i.zero, i.size, i.bytes)) = some (some z, size, bytes)) (hzs : z.cells.size = size) (hsz : 0 < size)
    (ho : o.op = .call { callee := .builtin .append, args := #[s, x], argTypes := #[t, t] }) (v : Value) (n : Nat) (xs : List Value)
    (hs : a.eval s = v) (h : St B w0 w (RowV e size v n xs • R)) {A : Option Addr} {m c : Nat} {news : List Value} (hx : a.eval x = .slice A m c) (hl : news.length = m * size) (hr : ∀ j u, news[j]? = some u → ∃ ad, A = some ad ∧ w.cell? (ad.add j) = some u) (h1 : ∀ u ∈ news, u.oneCell' = true) (h63 : n + m ≤ maxLen) (hb : (n + m) * bytes ≤ 140737488355328)
    (hK : ∀ v' w', St B w0 w' (RowV e size v' (n + m) (xs ++ news) • R) → K (a.put o.dst v') w') : Oper.wp P o a w K Q := by
  obtain ⟨i0, hi0, hz0, hz1, hz2⟩ := info_parts hi
  obtain ⟨v', w', hrun, hst⟩ := run_append2 (P := P) t o.type i0 z bytes ht hi0 hz0 hz1 hz2 hzs hsz h (SA := A) (m := m) (c := c) (news := news) hl hr h1 h63 hb
  unfold Oper.wp execOp
  simp only [ho, resolve, invoke, builtin, Sem.run_bind, Sem.run_pure, Result.andThen_ok, List.map_toArray, List.map_cons, List.map_nil, hs, hx, hrun]
  exact hK v' w' hst
theorem wpList_append {P : Program} {ops : Array Oper} {rest : List Oper} {o : Oper} {a : Act} {Q : Exit → Act → World → Prop} (hw : Region.wanted o (yielded ops a.tmps) = true) (s x : Operand) {t e : TypeId} (ht : P.underlying t = some (.slice e)) {z : Value} {size bytes : Nat}
    (hi : (P.info? e).map (fun i => (i.zero, i.size, i.bytes)) = some (some z, size, bytes)) (hzs : z.cells.size = size) (hsz : 0 < size)
    (ho : o.op = .call { callee := .builtin .append, args := #[s, x], argTypes := #[t, t] }) (v : Value) (n : Nat) (xs : List Value)
    (hs : a.eval s = v) (h : St B w0 w (RowV e size v n xs • R)) {A : Option Addr} {m c : Nat} {news : List Value} (hx : a.eval x = .slice A m c) (hl : news.length = m * size) (hr : ∀ j u, news[j]? = some u → ∃ ad, A = some ad ∧ w.cell? (ad.add j) = some u) (h1 : ∀ u ∈ news, u.oneCell' = true) (h63 : n + m ≤ maxLen) (hb : (n + m) * bytes ≤ 140737488355328)
    (hK : ∀ v' w', St B w0 w' (RowV e size v' (n + m) (xs ++ news) • R) → wpList P ops Q rest (a.put o.dst v') w') : wpList P ops Q (o :: rest) a w := by
  unfold wpList
  rw [if_pos hw]
  exact .inl (wp_append s x ht hi hzs hsz ho v n xs hs h hx hl hr h1 h63 hb hK)
end Go.Proofs.Ytbjddomocggjmaa.Sc
end
