/- A script's steps in memory: a slice of structs of four cells. -/
import Derived.Test.YtomjgjdnlbpleaaLawA
import Derived.Test.YtomjgjdnlbpleaaOpen
namespace Go.Proofs.Ytomjgjdnlbpleaa.Stream
open Go.RowKit Go.ChangeShapes Go.WideShapes Go.Proofs.Ytomjgjdnlbpleaa.Open Go.Proofs.Ytomjgjdnlbpleaa.Sep Go.Proofs.Ytomjgjdnlbpleaa.Bits Go.Proofs.Ytomjgjdnlbpleaa.Num

/-- One step: what, the number, the width, the octets. -/
structure OpD where
  what : Int
  v : Int
  w : Int
  b : List Int

structure OpOk (o : OpD) : Prop where
  what : -9223372036854775808 ≤ o.what ∧ o.what ≤ 9223372036854775807
  v : 0 ≤ o.v ∧ o.v < 18446744073709551616
  w : -9223372036854775808 ≤ o.w ∧ o.w ≤ 9223372036854775807
  b : ∀ x ∈ o.b, 0 ≤ x ∧ x < 256

/-- Its four cells, in block g, the slice beginning at off. -/
def OpAt (W : World) (g off : Nat) (k : Nat) (o : OpD) : Prop :=
  W.cell? ⟨g, off + k * 4, none⟩ = some (.int .i64 o.what) ∧ W.cell? ⟨g, off + k * 4 + 1, none⟩ = some (.int .u64 o.v) ∧ W.cell? ⟨g, off + k * 4 + 2, none⟩ = some (.int .i64 o.w) ∧
    ∃ vb, W.cell? ⟨g, off + k * 4 + 3, none⟩ = some vb ∧ Reads8 W vb o.b

def ReadsOps (W : World) (v : Value) (ops : List OpD) : Prop :=
  ∃ A c, v = .slice A ops.length c ∧ ops.length ≤ c ∧ c ≤ maxLen ∧ ∀ k o, ops[k]? = some o → ∃ g off, A = some ⟨g, off, none⟩ ∧ OpAt W g off k o

theorem cell_of_below {w w' : World} (hb : Below w.heap.size w w') {a : Addr} {v : Value} (h : w.cell? a = some v) : w'.cell? a = some v :=
  (hb.cell (World.block_lt_of_cell? w _ h)).trans h
theorem ReadsOps.below {w w' : World} {v : Value} {ops : List OpD} (h : ReadsOps w v ops) (hb : Below w.heap.size w w') : ReadsOps w' v ops := by
  obtain ⟨A, c, h1, h2, h3, h4⟩ := h
  refine ⟨A, c, h1, h2, h3, fun k o ho => ?_⟩
  obtain ⟨g, off, h5, h6, h7, h8, vb, h9, h10⟩ := h4 k o ho
  exact ⟨g, off, h5, cell_of_below hb h6, cell_of_below hb h7, cell_of_below hb h8, vb, cell_of_below hb h9, h10.below hb⟩

instance : Inhabited OpD := ⟨⟨0, 0, 0, []⟩⟩
/-- What four cells read as. -/
def OpK (W : World) (cs : List Value) (o : OpD) : Prop := OpOk o ∧ ∃ vb, cs = [.int .i64 o.what, .int .u64 o.v, .int .i64 o.w, vb] ∧ Reads8 W vb o.b

theorem ops_of_slice {W : World} {v : Value} {ops : List OpD} (h : SliceOf OpK 4 W v ops) : ReadsOps W v ops ∧ ∀ o ∈ ops, OpOk o := by
  obtain ⟨A, c, h1, h2, h3, h4⟩ := h
  refine ⟨⟨A, c, h1, h2, h3, fun k o ho => ?_⟩, fun o ho => ?_⟩
  · obtain ⟨g, off, cs, h5, _, h7, _, vb, rfl, h8⟩ := h4 k o ho
    exact ⟨g, off, h5, h7 0 _ rfl, h7 1 _ rfl, h7 2 _ rfl, vb, h7 3 _ rfl, h8⟩
  · obtain ⟨k, hk⟩ := List.getElem?_of_mem ho
    obtain ⟨_, _, _, _, _, _, h8, _⟩ := h4 k o hk
    exact h8

theorem open_ops {H : Type} {enc : TypeId × Value → H} {W : World} {base : Nat} {spare : Nat → Bool} {held : Bool} {a : Option Addr} {len cap : Nat} {d : DataW H} {p : List MemPlace}
    (h : DataW.Trod enc Try.prog W base spare held 22 (.slice a len cap) d p) : ∃ ops, ReadsOps W (.slice a len cap) ops ∧ ∀ o ∈ ops, OpOk o := by
  obtain ⟨fuel, hf⟩ := h
  have hf' : DataW.trod enc Try.prog W base spare held fuel 22 [.slice a len cap] = some (d, p) := hf
  have hK : ∀ n, n < fuel → ∀ cs y, cs.length = 4 → DataW.trod enc Try.prog W base spare held n 30 cs = some y → ∃ o, OpK W cs o := by
    intro n _ cs y hl hy
    obtain ⟨xs, m, _, _, _, hxl, hx⟩ := DataW.trod_struct Try.underlying30 hy
    match cs, hl with
    | [c0, c1, c2, c3], _ =>
      obtain ⟨y0, h0⟩ := open_field hx hxl 0 _ rfl rfl (n := 1) (by kernel_rfl)
      obtain ⟨y1, h1⟩ := open_field hx hxl 1 _ rfl rfl (n := 1) (by kernel_rfl)
      obtain ⟨y2, h2⟩ := open_field hx hxl 2 _ rfl rfl (n := 1) (by kernel_rfl)
      obtain ⟨y3, h3⟩ := open_field hx hxl 3 _ rfl rfl (n := 1) (by kernel_rfl)
      obtain ⟨n0, e0, _, w0⟩ := DataW.trod_int Try.underlying3 h0
      obtain ⟨n1, e1, _, w1⟩ := DataW.trod_int Try.underlying28 h1
      obtain ⟨n2, e2, _, w2⟩ := DataW.trod_int Try.underlying3 h2
      obtain ⟨bs, hb, wb⟩ := open_nums0 Try.underlying25 Try.underlying5 (by kernel_rfl) h3
      obtain rfl : c0 = .int .i64 n0 := (List.cons.inj (show [c0] = [_] from e0)).1
      obtain rfl : c1 = .int .u64 n1 := (List.cons.inj (show [c1] = [_] from e1)).1
      obtain rfl : c2 = .int .i64 n2 := (List.cons.inj (show [c2] = [_] from e2)).1
      exact ⟨⟨n0, n1, n2, bs⟩, ⟨wf_i64 w0, wf_u64 w1, wf_i64 w2, fun x hx => wf_u8 (wb x hx)⟩, c3, rfl, hb⟩
  obtain ⟨ops, ho⟩ := open_list (K := OpK) Try.underlying22 (by kernel_rfl) (by decide) hK hf'
  exact ⟨ops, ops_of_slice ho⟩
end Go.Proofs.Ytomjgjdnlbpleaa.Stream
