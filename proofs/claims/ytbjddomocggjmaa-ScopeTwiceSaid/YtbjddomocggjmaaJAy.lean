/- The law ScopeTwice, of its parameters. -/
import Derived.Test.YtbjddomocggjmaaJAx
namespace Go.Proofs.Ytbjddomocggjmaa.Sc
open Go.RowKit Go.ChangeShapes Go.WideShapes Go.Proofs.Ytbjddomocggjmaa.Sep
open Go.Proofs.YtbjddomocggjmaaW.PrintWords
variable {B : Nat} {w0 w : World} {R : HP}
section
variable {H : Type} {P : Program} {enc : TypeId × Value → H} {W : World} {base : Nat} {spare : Nat → Bool} {held : Bool}
theorem open_strX {t : TypeId} {cs : List Value} {fuel : Nat} {x : DataW H × List MemPlace} (ht : P.underlying t = some .string) (h : DataW.trod enc P W base spare held fuel t cs = some x) (hw : (x.1.weights P t).all (· ≤ reachBytes) = true) : ∃ s : ByteArray, cs = [.string s] ∧ s.size + 4096 ≤ M := by
  obtain ⟨s, h1, h2, _⟩ := DataW.trod_string ht h
  subst h2
  simp only [DataW.weights, List.all_cons, List.all_nil, Bool.and_true] at hw
  have hw2 := of_decide_eq_true hw
  have h3 : s.size ≤ reachBytes := by simpa using hw2
  have h4 := reach_M
  exact ⟨s, h1, by omega⟩
theorem open_mdX (fuel : Nat) (cs : List Value) (x : DataW H × List MemPlace) (hl : cs.length = 4) (h : DataW.trod enc Try.prog W base spare held fuel 47 cs = some x) (hw : (x.1.weights Try.prog 47).all (· ≤ reachBytes) = true) :
    ∃ a : Md, kMd.K W a cs ∧ oMd a ∧ oS (a.n ++ (⟨#[113]⟩ : ByteArray)) := by
  obtain ⟨a, hK, ho⟩ := open_md fuel cs x hl h hw
  refine ⟨a, hK, ho, ?_⟩
  obtain ⟨xs, m, hm, rfl, _, hxl, hx⟩ := DataW.trod_struct Try.underlying47 h
  obtain ⟨y0, h0, w0⟩ := open_fieldW Try.underlying47 hx hxl hw 0 _ rfl rfl (n := 1) (by kernel_rfl)
  obtain ⟨s, e0, v0⟩ := open_strX Try.underlying9 h0 w0
  obtain ⟨A2, c2, A3, c3, rfl, -⟩ := kMd_open hK
  have e : a.n = s := by simpa using e0
  unfold oS
  rw [ByteArray.size_append, e]
  have : (⟨#[113]⟩ : ByteArray).size = 1 := rfl
  omega
theorem open_mdsL {v : Value} {d : DataW H} {p : List MemPlace} (h : DataW.Trod enc Try.prog W base spare held 39 v d p) (hw : (d.weights Try.prog 39).all (· ≤ reachBytes) = true) (hv : ∃ a len cap, v = .slice a len cap) :
    ∃ A c l, v = .slice A l.length c ∧ kMd.C W A l.length l ∧ ∀ m ∈ l, oMd m ∧ oS (m.n ++ (⟨#[113]⟩ : ByteArray)) := by
  obtain ⟨a, len, cap, rfl⟩ := hv
  obtain ⟨fuel, hf⟩ := h
  have hf' : DataW.trod enc Try.prog W base spare held fuel 39 [.slice a len cap] = some (d, p) := hf
  obtain ⟨l, hL, b⟩ := open_listW (K := fun W cs x => kMd.K W x cs ∧ (oMd x ∧ oS (x.n ++ (⟨#[113]⟩ : ByteArray)))) (size := 4) (Bt := 72) Try.underlying39 (by kernel_rfl) (by decide) (by kernel_rfl) (fun n _ cs y hl hy hw => open_mdX n cs y hl hy hw) hf' hw
  obtain ⟨rfl, g1, g2, k1, o1⟩ := c_of_slice (d := kMd) rfl hL
  exact ⟨a, cap, l, rfl, k1, o1⟩
end
theorem law_twice (A : Option Addr) (c : Nat) (l : List Md) (k : Int) (W : World) (hC : kMd.C W A l.length l) (ho : ∀ m ∈ l, oMd m ∧ oS (m.n ++ (⟨#[113]⟩ : ByteArray))) :
    Calls Try.prog 9 #[.slice A l.length c, .int .i64 k] W fun e w' => e = .returned (.bool true) ∧ Below W.heap.size W w' :=
  (ltwice_calls (w0 := W) (R := emp) A c l k (St.start W) hC (fun m hm => (ho m hm).1) fun m hm => (ho m hm).2).mono fun _ _ ⟨h1, h2⟩ => ⟨h1, h2.below⟩
end Go.Proofs.Ytbjddomocggjmaa.Sc
