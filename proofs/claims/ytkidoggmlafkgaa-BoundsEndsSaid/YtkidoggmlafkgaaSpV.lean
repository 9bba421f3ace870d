/- A parameter that is a slice of ranges, read as a list. -/
import Derived.Test.YtkidoggmlafkgaaOpen
import Derived.Test.YtkidoggmlafkgaaSpB
namespace Go.Proofs.Ytkidoggmlafkgaa.Span
open Go.RowKit Go.ChangeShapes Go.WideShapes Go.Proofs.Ytkidoggmlafkgaa.Open Go.Proofs.Ytkidoggmlafkgaa.Sep

instance : Inhabited Rg := ⟨(0, 0)⟩
def RgK (_ : World) (cs : List Value) (r : Rg) : Prop := okR r ∧ cs = [.int .i64 r.1, .int .i64 r.2]
theorem rgs_of_slice {W : World} {v : Value} {s : List Rg} (h : SliceOf RgK 2 W v s) : R2 W v s ∧ ∀ r ∈ s, okR r := by
  obtain ⟨A, c, h1, h2, h3, h4⟩ := h
  refine ⟨⟨A, c, h1, h2, h3, fun k r hr => ?_⟩, fun r hr => ?_⟩
  · obtain ⟨g, off, cs, h5, _, h7, _, rfl⟩ := h4 k r hr
    exact ⟨g, off, h5, h7 0 _ rfl, h7 1 _ rfl⟩
  · obtain ⟨k, hk⟩ := List.getElem?_of_mem hr
    obtain ⟨_, _, _, _, _, _, h8, _⟩ := h4 k r hk
    exact h8
theorem open_rgs {H : Type} {enc : TypeId × Value → H} {W : World} {base : Nat} {spare : Nat → Bool} {held : Bool} {a : Option Addr} {len cap : Nat} {d : DataW H} {p : List MemPlace}
    (h : DataW.Trod enc Try.prog W base spare held 22 (.slice a len cap) d p) : ∃ s, R2 W (.slice a len cap) s ∧ ∀ r ∈ s, okR r := by
  obtain ⟨fuel, hf⟩ := h
  have hf' : DataW.trod enc Try.prog W base spare held fuel 22 [.slice a len cap] = some (d, p) := hf
  have hK : ∀ n, n < fuel → ∀ cs y, cs.length = 2 → DataW.trod enc Try.prog W base spare held n 32 cs = some y → ∃ r, RgK W cs r := by
    intro n _ cs y hl hy
    obtain ⟨xs, m, _, _, _, hxl, hx⟩ := DataW.trod_struct Try.underlying32 hy
    match cs, hl with
    | [c0, c1], _ =>
      obtain ⟨y0, h0⟩ := open_field hx hxl 0 _ rfl rfl (n := 1) (by kernel_rfl)
      obtain ⟨y1, h1⟩ := open_field hx hxl 1 _ rfl rfl (n := 1) (by kernel_rfl)
      obtain ⟨n0, e0, _, w0⟩ := DataW.trod_int Try.underlying3 h0
      obtain ⟨n1, e1, _, w1⟩ := DataW.trod_int Try.underlying3 h1
      obtain rfl : c0 = .int .i64 n0 := (List.cons.inj (show [c0] = [_] from e0)).1
      obtain rfl : c1 = .int .i64 n1 := (List.cons.inj (show [c1] = [_] from e1)).1
      have a := wf_i64 w0
      have b := wf_i64 w1
      exact ⟨(n0, n1), ⟨a.1, a.2, b.1, b.2⟩, rfl⟩
  obtain ⟨s, ho⟩ := open_list (K := RgK) Try.underlying22 (by kernel_rfl) (by decide) hK hf'
  exact ⟨s, rgs_of_slice ho⟩
end Go.Proofs.Ytkidoggmlafkgaa.Span
