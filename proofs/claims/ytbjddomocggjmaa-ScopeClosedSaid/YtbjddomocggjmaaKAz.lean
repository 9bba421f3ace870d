/- The law ScopeClosed, of its parameter. -/
import Derived.Test.YtbjddomocggjmaaKAy
namespace Go.Proofs.Ytbjddomocggjmaa.Sc
open Go.RowKit Go.ChangeShapes Go.WideShapes Go.Proofs.Ytbjddomocggjmaa.Sep
open Go.Proofs.YtbjddomocggjmaaW.PrintWords
variable {B : Nat} {w0 w : World} {R : HP}
section
variable {H : Type} {enc : TypeId × Value → H} {W : World} {base : Nat} {spare : Nat → Bool} {held : Bool}
theorem open_mdsB {v : Value} {d : DataW H} {p : List MemPlace} (h : DataW.Trod enc Try.prog W base spare held 39 v d p) (hw : (d.weights Try.prog 39).all (· ≤ reachBytes) = true) (hv : ∃ a len cap, v = .slice a len cap) :
    ∃ A c l, v = .slice A l.length c ∧ kMd.C W A l.length l ∧ (∀ m ∈ l, oMd m) ∧ l.length * 72 ≤ M := by
  obtain ⟨a, len, cap, rfl⟩ := hv
  obtain ⟨fuel, hf⟩ := h
  have hf' : DataW.trod enc Try.prog W base spare held fuel 39 [.slice a len cap] = some (d, p) := hf
  obtain ⟨l, hL, b⟩ := open_listW (K := fun W cs x => kMd.K W x cs ∧ oMd x) (size := 4) (Bt := 72) Try.underlying39 (by kernel_rfl) (by decide) (by kernel_rfl) (fun n _ cs y hl hy hw => open_md n cs y hl hy hw) hf' hw
  obtain ⟨rfl, g1, g2, k1, o1⟩ := c_of_slice (d := kMd) rfl hL
  exact ⟨a, cap, l, rfl, k1, o1, b⟩
end
theorem law_closed (A : Option Addr) (c : Nat) (l : List Md) (W : World) (hC : kMd.C W A l.length l) (ho : ∀ m ∈ l, oMd m) (hb : l.length * 72 ≤ M) :
    Calls Try.prog 7 #[.slice A l.length c] W fun e w' => e = .returned (.bool true) ∧ Below W.heap.size W w' :=
  (lclosed_calls (w0 := W) (R := emp) A c l hb (St.start W) hC ho).mono fun _ _ ⟨h1, h2⟩ => ⟨h1, h2.below⟩
end Go.Proofs.Ytbjddomocggjmaa.Sc
