/- fragcheck.typed, Check, walked. -/
import Derived.Test.YtbjddomocggjmaaFcTT
import Derived.Test.YtbjddomocggjmaaFcF
import Derived.Test.YtbjddomocggjmaaFcV
import Derived.Test.YtbjddomocggjmaaPpatternx1
namespace Go.Proofs.Ytbjddomocggjmaa.Fc
open Go.RowKit Go.ChangeShapes Go.WideShapes Go.Proofs.Ytbjddomocggjmaa.Sep
open Go.Proofs.YtbjddomocggjmaaW.PrintWords
open Ppattern (fragcheck_pattern.f fragcheck_pattern.j0 fragcheck_pattern.j1 fragcheck_pattern.calls)
variable {w0 w : World} {R : HP}

def patB (op : Int) (name : ByteArray) : ByteArray × Bool := (fragcheck_pattern.f 2 op name).getD (⟨#[]⟩, false)
theorem pat_j1 (k : Nat) (a : ByteArray) (b : Bool) : (fragcheck_pattern.j1 (k + 1) a b).isSome = true := by
  simp only [fragcheck_pattern.j1]
  repeat' (first | rfl | split)
theorem pat_j0 (k : Nat) (a : ByteArray) (b : Bool) : (fragcheck_pattern.j0 (k + 2) a b).isSome = true := by
  simp only [fragcheck_pattern.j0]
  repeat' (first | rfl | exact pat_j1 _ _ _ | split)
theorem pat_f (op : Int) (name : ByteArray) : (fragcheck_pattern.f 2 op name).isSome = true := by
  unfold fragcheck_pattern.f
  repeat' (first | rfl | exact pat_j0 0 _ _ | split)
theorem pat_some (op : Int) (name : ByteArray) : fragcheck_pattern.f 2 op name = some (patB op name) := by
  have h := pat_f op name
  unfold patB
  cases e : fragcheck_pattern.f 2 op name with
  | none => rw [e] at h; cases h
  | some x => rfl
def typedB (s : Stmt) : Bool := if s.f0 = 2 then true else (patB s.f0 s.f1).2 && fitsB (s.f2.map sortOf) (patB s.f0 s.f1).1.data.toList
theorem st_drawn {B : Nat} {w' : World} (h : St B w0 w R) (hd : Drawn0 w w') : St B w0 w' R := by
  obtain ⟨n, rfl⟩ := hd.out
  exact h.drewN n
theorem pattern_calls (op : Int) (name : ByteArray) {B : Nat} (h : St B w0 w R) :
    Calls Try.prog 59 #[.int .i64 op, .string name] w fun e w' => e = .returned (.tuple #[.string (patB op name).1, .bool (patB op name).2]) ∧ St B w0 w' R :=
  (fragcheck_pattern.calls 2 op name _ _ w (pat_some op name)).mono fun _ _ ⟨h1, h2⟩ => ⟨h1, st_drawn h h2⟩
set_option maxHeartbeats 2000000 in
theorem typed_ok : OkFn w0 R 34 #[] typedB := by
  intro W Q s cs h hK _
  obtain ⟨A2, c2, A3, c3, A4, c4, rfl, g2, k2, -⟩ := PFragcheckChecks.k32_open hK
  have HC := Lib.hid k2
  have H := Lib.hid (h.alloc (.cells #[.int .i64 s.f0, .string s.f1, .slice A2 s.f2.length c2, .slice A3 s.f3.length c3, .slice A4 s.f4.length c4] 32))
  clear h hK g2 k2
  show Calls Try.prog 34 #[.agg #[.int .i64 s.f0, .string s.f1, .slice A2 s.f2.length c2, .slice A3 s.f3.length c3, .slice A4 s.f4.length c4]] W fun e w' => e = .returned (.bool (typedB s)) ∧ S w0 w' (Q • R)
  unfold typedB
  by_cases q0 : s.f0 = 2
  · rw [if_pos q0]
    have q0b : (s.f0 == 2) = true := beq_iff_eq.mpr q0
    clear q0
    go_enter Try.func34, Try.ntmps34
    go_wp2
    go_ret
    exact ⟨rfl, H.out.drop⟩
  rw [if_neg q0]
  have q0b : (s.f0 == 2) = false := beq_eq_false_iff_ne.mpr q0
  clear q0
  have HP := Lib.hid (pattern_calls s.f0 s.f1 H.out)
  generalize (patB s.f0 s.f1).1 = p at *
  cases q1 : (patB s.f0 s.f1).2 with
  | false =>
    rw [q1] at HP
    clear q1
    go_enter Try.func34, Try.ntmps34
    go_wp2_with fail
    refine HP.out.mono ?_
    rintro e w1 ⟨rfl, h1⟩
    have H1 := Lib.hid h1
    clear h1
    go_wp2
    go_ret
    exact ⟨rfl, H1.out.drop⟩
  | true =>
    rw [q1] at HP
    clear q1
    go_enter Try.func34, Try.ntmps34
    go_wp2_with fail
    refine HP.out.mono ?_
    rintro e w1 ⟨rfl, h1⟩
    have H1 := Lib.hid h1
    have d2 := h1.cell 2 rfl
    clear h1
    go_wp2_with fail
    refine (fits_calls A2 c2 s.f2 p H1.out HC.out).mono ?_
    rintro e w2 ⟨rfl, h1⟩
    have H2 := Lib.hid h1
    clear h1
    go_wp2
    go_ret
    exact ⟨rfl, H2.out.drop⟩

/-! ### the closures of Check -/
def knownB (ks : List (List UInt8)) (s : Stmt) : Bool := s.f0 != 2 || ks.contains s.f1.data.toList
set_option maxHeartbeats 1000000 in
theorem known_ok (nb mb : Nat) (ks : List (List UInt8)) (R0 : HP) : OkFn w0 (Blk nb (.cells #[.map (some mb)] 75) • (SetP mb ks • R0)) 29 #[.pointer (some ⟨nb, 0, none⟩)] (knownB ks) := by
  intro W Q s cs h hK ho
  obtain ⟨A2, c2, A3, c3, A4, c4, rfl, -⟩ := PFragcheckChecks.k32_open hK
  have H := Lib.hid (h.alloc (.cells #[.int .i64 s.f0, .string s.f1, .slice A2 s.f2.length c2, .slice A3 s.f3.length c3, .slice A4 s.f4.length c4] 32))
  have hs : s.f1.size ≤ maxLen := Nat.le_trans (ho 1).2.1 (by decide)
  clear h hK ho
  have e0 := H.out.assoc'.swap.assoc.cell 0 rfl
  have el := st_look H.out.assoc'.swap.assoc.two.assoc s.f1 hs
  clear hs
  show Calls Try.prog 29 #[.agg #[.int .i64 s.f0, .string s.f1, .slice A2 s.f2.length c2, .slice A3 s.f3.length c3, .slice A4 s.f4.length c4], .pointer (some ⟨nb, 0, none⟩)] W fun e w' => e = .returned (.bool (s.f0 != 2 || ks.contains s.f1.data.toList)) ∧ S w0 w' (Q • (Blk nb (.cells #[.map (some mb)] 75) • (SetP mb ks • R0)))
  generalize ks.contains s.f1.data.toList = kb at *
  cases q0 : (s.f0 != 2) with
  | true =>
    go_enter Try.func29, Try.ntmps29
    go_wp2
    go_ret
    exact ⟨rfl, H.out.drop⟩
  | false =>
    go_enter Try.func29, Try.ntmps29
    go_wp2
    go_ret
    exact ⟨rfl, H.out.drop⟩
set_option maxHeartbeats 1000000 in
theorem check2_tells (g kb : Nat) (lb : Array Value) (eg : ∀ args w, (callFunc g args).run Try.prog w = .ok (.enter g args) w) (p : Stmt → Bool) (hok : OkFn w0 R g lb p) (l : List Func) (ho : ∀ x ∈ l, okF x) :
    Tells PFragcheckChecks.k34 w0 (Blk kb (.cells #[.func (.func g) #[] lb] 76) • R) 31 #[.pointer (some ⟨kb, 0, none⟩)] l (fun f => !allB p f.f1) := by
  intro W f h hf cs hK
  obtain ⟨A1, c1, rfl, hc, hC⟩ := PFragcheckChecks.k34_open hK
  have H := Lib.hid (h.alloc (.cells #[.string f.f0, .slice A1 f.f1.length c1] 34))
  have e0 := H.out.two.cell 0 rfl
  have HA := Lib.hid (all_calls g lb eg p hok (SizeOf.sizeOf f.f1 + 1) f.f1 (by omega) _ _ A1 c1 H.out.assoc' hC (ho f hf).2.2)
  clear h hK hC hc ho eg hok
  show Calls Try.prog 31 #[.agg #[.string f.f0, .slice A1 f.f1.length c1], .pointer (some ⟨kb, 0, none⟩)] W _
  go_enter Try.func31, Try.ntmps31
  go_wp2_with fail
  refine HA.out.mono ?_
  rintro e w1 ⟨rfl, h1⟩
  have H1 := Lib.hid h1.assoc.drop
  clear h1
  go_wp2
  go_ret
  exact ⟨rfl, H1.out⟩
set_option maxHeartbeats 1000000 in
theorem check3_tells (l : List Func) (ho : ∀ x ∈ l, okF x) :
    Tells PFragcheckChecks.k34 w0 R 33 #[] l (fun f => !allB typedB f.f1) := by
  intro W f h hf cs hK
  have eg : ∀ args w, (callFunc 34 args).run Try.prog w = .ok (.enter 34 args) w := enters_of Try.func34 (by kernel_rfl) rfl
  obtain ⟨A1, c1, rfl, hc, hC⟩ := PFragcheckChecks.k34_open hK
  have H := Lib.hid (h.alloc (.cells #[.string f.f0, .slice A1 f.f1.length c1] 34))
  have HA := Lib.hid (all_calls (R := R) 34 #[] eg typedB typed_ok (SizeOf.sizeOf f.f1 + 1) f.f1 (by omega) _ _ A1 c1 H.out hC (ho f hf).2.2)
  clear h hK hC hc ho eg
  show Calls Try.prog 33 #[.agg #[.string f.f0, .slice A1 f.f1.length c1]] W _
  go_enter Try.func33, Try.ntmps33
  go_wp2_with fail
  refine HA.out.mono ?_
  rintro e w1 ⟨rfl, h1⟩
  have H1 := Lib.hid h1.drop
  clear h1
  go_wp2
  go_ret
  exact ⟨rfl, H1.out⟩
end Go.Proofs.Ytbjddomocggjmaa.Fc
