/- FragcheckChecks, FragcheckMethods: the walks of the laws. -/
import Derived.Test.YtbjddomocggjmaaFcB
namespace Go.Proofs.Ytbjddomocggjmaa.Fc
open Go.RowKit Go.ChangeShapes Go.WideShapes Go.Proofs.Ytbjddomocggjmaa.Sep
open Go.Proofs.YtbjddomocggjmaaW.PrintWords

set_option maxHeartbeats 4000000 in
set_option maxRecDepth 100000 in
theorem lawchecks_calls (A : Option Addr) (c : Nat) (l : List Func) (nm : ByteArray) (w : World) (hC : CF w A l) (hc : l.length ≤ c) (hl : l.length ≤ M) (ho : ∀ x ∈ l, okF x) :
    Calls Try.prog 3 #[.slice A l.length c, .string nm] w fun e w' => e = .returned (.bool true) ∧ Below w.heap.size w w' := by
  have H := Lib.hid (St.start w)
  have HA := Lib.hid (And.intro (fun (W : World) (Q : HP) (h : St w.heap.size w W Q) => Kd.C_below hC h.below) (And.intro hc (And.intro hl ho)))
  clear hC hc ho
  go_enter Try.func3, Try.ntmps3
  go_wp2_with fail
  refine (awake20_calls H.out).mono ?_
  rintro e w1 ⟨rfl, h1⟩
  have H1 := Lib.hid h1
  clear h1 H
  go_wp2_with fail
  refine (few_at A c l 3000 H1.out (HA.out.1 _ _ H1.out) HA.out.2.1 HA.out.2.2.1 HA.out.2.2.2).mono ?_
  rintro e w2 ⟨b, rfl, h2⟩
  have H2 := Lib.hid h2
  clear h2 H1
  cases b with
  | false =>
    go_wp2
    go_ret
    exact ⟨rfl, H2.out.below⟩
  | true =>
    go_wp2_with fail
    refine (check_at A c l H2.out (HA.out.1 _ _ H2.out) HA.out.2.2.2).mono ?_
    rintro e w3 ⟨rfl, h3⟩
    have H3 := Lib.hid h3
    clear h3 H2
    go_wp2_with fail
    refine (check20_at A c l H3.out (HA.out.1 _ _ H3.out) HA.out.2.1 HA.out.2.2.1 HA.out.2.2.2).mono ?_
    rintro e w4 ⟨rfl, h4⟩
    have H4 := Lib.hid h4
    clear h4 H3
    generalize errI l = er
    have q : decide (er = er) = true := decide_eq_true rfl
    have q2 : (er == er) = true := beq_self_eq_true er
    go_wp2_with fail
    refine (find_at2 A c l nm H4.out (HA.out.1 _ _ H4.out)).mono ?_
    rintro e w5 ⟨rfl, h5⟩
    have H5 := Lib.hid h5
    clear h5 H4
    go_wp2_with fail
    refine (find20_at A c l nm H5.out (HA.out.1 _ _ H5.out) HA.out.2.1 HA.out.2.2.1).mono ?_
    rintro e w6 ⟨rfl, h6⟩
    have H6 := Lib.hid h6
    clear h6 H5 q q2
    generalize findN (nameB nm) l 0 = fi
    have q : decide (fi = fi) = true := decide_eq_true rfl
    have q2 : (fi == fi) = true := beq_self_eq_true fi
    go_wp2
    go_ret
    exact ⟨rfl, H6.out.below⟩

def oneOf (op : Int) (nm : ByteArray) (l : List Arg) : Stmt := ⟨op, nm, l, [], []⟩
def TT : ByteArray := ⟨#[116]⟩
def methods (op : Int) (nm : ByteArray) (l : List Arg) : List Func := [⟨TT, [oneOf op nm l]⟩]
theorem one_ok (op : Int) (nm : ByteArray) (l : List Arg) (hop : i64 op) (hn : nm.size ≤ M) (hl : l.length ≤ M) (h : ∀ a ∈ l, okA a) : ∀ d, okS d (oneOf op nm l)
  | 0 => trivial
  | _ + 1 => ⟨hop, hn, hl, Nat.zero_le _, Nat.zero_le _, h, no_mem, no_mem⟩
theorem methods_ok (op : Int) (nm : ByteArray) (l : List Arg) (hop : i64 op) (hn : nm.size ≤ M) (hl : l.length ≤ M) (h : ∀ a ∈ l, okA a) : ∀ f ∈ methods op nm l, okF f := by
  intro f hf
  obtain rfl := List.mem_singleton.1 hf
  refine ⟨by show 1 ≤ M; decide, by show 1 ≤ M; decide, fun x hx => ?_⟩
  obtain rfl := List.mem_singleton.1 hx
  exact one_ok op nm l hop hn hl h
theorem cmethods {W : World} {g : Nat} (op : Int) (nm : ByteArray) (l : List Arg) (A : Option Addr) (c : Nat) (hl : l.length ≤ c) (hA : CA W A l)
    (h1 : ∀ (i : Nat) (u : Value), ([.int .i64 op, .string nm, .slice A l.length c, .slice none 0 0, .slice none 0 0] : List Value)[i]? = some u → W.cell? ⟨g, i, none⟩ = some u)
    (h2 : ∀ (i : Nat) (u : Value), ([.string TT, .slice (some ⟨g, 0, none⟩) 1 1] : List Value)[i]? = some u → W.cell? ⟨g + 1, i, none⟩ = some u) : CF W (some ⟨g + 1, 0, none⟩) (methods op nm l) := by
  have k1 : CS W (some ⟨g, 0, none⟩) [oneOf op nm l] := lit1 rfl (PFragcheckChecks.k32_mk W (oneOf op nm l) hl hA (Nat.le_refl 0) nilC (Nat.le_refl 0) nilC) h1
  exact lit1 rfl (PFragcheckChecks.k34_mk W ⟨TT, [oneOf op nm l]⟩ (Nat.le_refl 1) k1) h2
set_option maxHeartbeats 4000000 in
set_option maxRecDepth 100000 in
theorem lawmethods_calls (op : Int) (nm : ByteArray) (A : Option Addr) (c : Nat) (l : List Arg) (w : World) (hop : i64 op) (hn : nm.size ≤ M) (hC : CA w A l) (hc : l.length ≤ c) (hl : l.length ≤ M) (ho : ∀ x ∈ l, okA x) :
    Calls Try.prog 4 #[.int .i64 op, .string nm, .slice A l.length c] w fun e w' => e = .returned (.bool true) ∧ Below w.heap.size w w' := by
  have H := Lib.hid (St.start w)
  have HA := Lib.hid (And.intro (fun (W : World) (Q : HP) (h : St w.heap.size w W Q) => Kd.C_below hC h.below) (And.intro hc (methods_ok op nm l hop hn hl ho)))
  have hl2 : l.length ≤ 140737488351232 := hl
  have hn2 : nm.size ≤ 140737488351232 := hn
  clear hC hc ho
  go_enter Try.func4, Try.ntmps4
  go_wp2_with fail
  refine (awake20_calls H.out).mono ?_
  rintro e w1 ⟨rfl, h1⟩
  have H1 := Lib.hid h1
  clear h1 H
  by_cases q1 : 300 < l.length
  · have p1 : decide ((300 : Int) < (l.length : Int)) = true := decide_eq_true (by omega)
    have p2 : (300 : Int) < (l.length : Int) := by omega
    go_wp2
    go_ret
    exact ⟨rfl, H1.out.below⟩
  have p1 : decide ((300 : Int) < (l.length : Int)) = false := decide_eq_false (by omega)
  have p2 : ¬ (300 : Int) < (l.length : Int) := by omega
  by_cases q2 : 100 < nm.size
  · have p3 : decide ((100 : Int) < (nm.size : Int)) = true := decide_eq_true (by omega)
    have p4 : (100 : Int) < (nm.size : Int) := by omega
    go_wp2
    go_ret
    exact ⟨rfl, H1.out.below⟩
  have p3 : decide ((100 : Int) < (nm.size : Int)) = false := decide_eq_false (by omega)
  have p4 : ¬ (100 : Int) < (nm.size : Int) := by omega
  generalize hg : w1.heap.size = g
  have H2 := Lib.hid (alloc_at (n := g) H1.out (.cells #[.int .i64 op, .string nm, .slice A l.length c, .slice none 0 0, .slice none 0 0] 32) hg.symm)
  have H3 := Lib.hid (alloc_at (n := g + 1) H2.out (.cells #[.string TT, .slice (some ⟨g, 0, none⟩) 1 1] 34) (by simp [hg]))
  have HC := Lib.hid (cmethods op nm l A c HA.out.2.1 (HA.out.1 _ _ H3.out) (fun i u hu => H3.out.drop.cell i (by simpa using hu)) (fun i u hu => H3.out.cell i (by simpa using hu)))
  clear H1 H2
  go_wp2_with fail
  refine (check_at _ 1 (methods op nm l) H3.out HC.out HA.out.2.2).mono ?_
  rintro e w3 ⟨rfl, h3⟩
  have H4 := Lib.hid h3
  clear h3 H3 HC
  have HC := Lib.hid (cmethods op nm l A c HA.out.2.1 (HA.out.1 _ _ H4.out) (fun i u hu => H4.out.drop.cell i (by simpa using hu)) (fun i u hu => H4.out.cell i (by simpa using hu)))
  go_wp2_with fail
  refine (check20_at _ 1 (methods op nm l) H4.out HC.out (Nat.le_refl 1) (by show 1 ≤ M; decide) HA.out.2.2).mono ?_
  rintro e w4 ⟨rfl, h4⟩
  have H5 := Lib.hid h4
  clear h4 H4 HC
  generalize errI (methods op nm l) = er
  have q : decide (er = er) = true := decide_eq_true rfl
  have q2 : (er == er) = true := beq_self_eq_true er
  go_wp2
  go_ret
  exact ⟨rfl, H5.out.below⟩
end Go.Proofs.Ytbjddomocggjmaa.Fc
