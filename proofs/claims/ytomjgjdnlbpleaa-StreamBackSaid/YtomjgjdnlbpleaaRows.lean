/-
  No cell of these rows narrows 'for every input' (looked for: loops, veiled, ifaces, maps, wideKeys, modest, calm, conditions, laid).
  DERIVED. THE GIVEN ROWS OF THIS SEAT. 12 by the template 'for every input the law returns true; each argument reads behind the call as it read before'; 0 by the template 'total and deterministic' (their statements: YtomjgjdnlbpleaaTotals.lean).
  GIVEN WITH THE SEED: the statements are not yours to turn. If you find one false, say at which input.
  Laid BY PROGRAM, IN A SANDBOX (cutbox-rows.mjs): the forced cells as the released guide's own fill.sh prints them over the translation 7a3fc3324ccaeae5… (all of the seat's roots in one cut). By AI agents, Wed Nov 11 2026. No macro, syntax, notation, axiom, sorry.
-/
import Derived.Test.YtomjgjdnlbpleaaChecked
import GoSem.Claim
import GoSem.ClaimJoined
import GoSem.ClaimMapViews
import Derived.JoinedTies
import Derived.KernelRfl
namespace Go.Proofs.Ytomjgjdnlbpleaa
/- THE CELL 'sum', in the pinned program and in every row, IS THE sha256 OF THE DUMP (.gsa) THAT YtomjgjdnlbpleaaProg.lean LOADS. Nothing in Lean hashes anything: it is a label: what it is worth is what the hold of that sum in a sandbox is worth. -/
noncomputable def Try.pinned : Pinned := { name := "ytomjgjdnlbpleaa", sum := "7a3fc3324ccaeae5c0604842fef25f4b04bd3255ca3b3fb8f5f92b26a5dc53c3", checked := Try.checked }
namespace Rows
def none {H : Type} : Left H := { results := [], args := [] }

/-- 'spandrellaw01.StreamWrites': WHATEVER THE INPUT: true; the input reads as it did. -/
def streamWritesSpec : ChangeSpec := { name := "streamWrites", fn := fun _ => fun
  | [d] => { results := [.lit (.bool true)], args := [d] }
  | _ => none }
def streamWritesRow : OpenClaim := { program := "ytomjgjdnlbpleaa", sum := "7a3fc3324ccaeae5c0604842fef25f4b04bd3255ca3b3fb8f5f92b26a5dc53c3", func := "spandrel/spandrellaw01.StreamWrites", spec := "streamWrites", apart := false }
def StreamWritesSaid : Prop := streamWritesRow.holds Try.pinned (OpenSpec.ofChange streamWritesSpec)

/-- ITS FALSE NEIGHBOUR: 'it returns false'. Refute it at one input. -/
def streamWritesWrong : ChangeSpec := { name := "streamWrites", fn := fun _ => fun
  | [d] => { results := [.lit (.bool false)], args := [d] }
  | _ => none }
def StreamWritesWrongFalsely : Prop := streamWritesRow.holds Try.pinned (OpenSpec.ofChange streamWritesWrong)

/-- 'spandrellaw01.StreamParts': WHATEVER THE INPUT: true; the input reads as it did. -/
def streamPartsSpec : ChangeSpec := { name := "streamParts", fn := fun _ => fun
  | [d1, d2, d3, d4] => { results := [.lit (.bool true)], args := [d1, d2, d3, d4] }
  | _ => none }
def streamPartsRow : OpenClaim := { program := "ytomjgjdnlbpleaa", sum := "7a3fc3324ccaeae5c0604842fef25f4b04bd3255ca3b3fb8f5f92b26a5dc53c3", func := "spandrel/spandrellaw01.StreamParts", spec := "streamParts", apart := false }
def StreamPartsSaid : Prop := streamPartsRow.holds Try.pinned (OpenSpec.ofChange streamPartsSpec)

/-- ITS FALSE NEIGHBOUR: 'it returns false'. Refute it at one input. -/
def streamPartsWrong : ChangeSpec := { name := "streamParts", fn := fun _ => fun
  | [d1, d2, d3, d4] => { results := [.lit (.bool false)], args := [d1, d2, d3, d4] }
  | _ => none }
def StreamPartsWrongFalsely : Prop := streamPartsRow.holds Try.pinned (OpenSpec.ofChange streamPartsWrong)

/-- 'spandrellaw02.OctetsWrites': WHATEVER THE INPUT: true; the input reads as it did. -/
def octetsWritesSpec : ChangeSpec := { name := "octetsWrites", fn := fun _ => fun
  | [d1, d2] => { results := [.lit (.bool true)], args := [d1, d2] }
  | _ => none }
def octetsWritesRow : OpenClaim := { program := "ytomjgjdnlbpleaa", sum := "7a3fc3324ccaeae5c0604842fef25f4b04bd3255ca3b3fb8f5f92b26a5dc53c3", func := "spandrel/spandrellaw02.OctetsWrites", spec := "octetsWrites", apart := false }
def OctetsWritesSaid : Prop := octetsWritesRow.holds Try.pinned (OpenSpec.ofChange octetsWritesSpec)

/-- ITS FALSE NEIGHBOUR: 'it returns false'. Refute it at one input. -/
def octetsWritesWrong : ChangeSpec := { name := "octetsWrites", fn := fun _ => fun
  | [d1, d2] => { results := [.lit (.bool false)], args := [d1, d2] }
  | _ => none }
def OctetsWritesWrongFalsely : Prop := octetsWritesRow.holds Try.pinned (OpenSpec.ofChange octetsWritesWrong)

/-- 'spandrellaw02.OctetsOrder': WHATEVER THE INPUT: true; the input reads as it did. -/
def octetsOrderSpec : ChangeSpec := { name := "octetsOrder", fn := fun _ => fun
  | [d1, d2] => { results := [.lit (.bool true)], args := [d1, d2] }
  | _ => none }
def octetsOrderRow : OpenClaim := { program := "ytomjgjdnlbpleaa", sum := "7a3fc3324ccaeae5c0604842fef25f4b04bd3255ca3b3fb8f5f92b26a5dc53c3", func := "spandrel/spandrellaw02.OctetsOrder", spec := "octetsOrder", apart := false }
def OctetsOrderSaid : Prop := octetsOrderRow.holds Try.pinned (OpenSpec.ofChange octetsOrderSpec)

/-- ITS FALSE NEIGHBOUR: 'it returns false'. Refute it at one input. -/
def octetsOrderWrong : ChangeSpec := { name := "octetsOrder", fn := fun _ => fun
  | [d1, d2] => { results := [.lit (.bool false)], args := [d1, d2] }
  | _ => none }
def OctetsOrderWrongFalsely : Prop := octetsOrderRow.holds Try.pinned (OpenSpec.ofChange octetsOrderWrong)

/-- 'spandrellaw02.OctetsSigns': WHATEVER THE INPUT: true; the input reads as it did. -/
def octetsSignsSpec : ChangeSpec := { name := "octetsSigns", fn := fun _ => fun
  | [d] => { results := [.lit (.bool true)], args := [d] }
  | _ => none }
def octetsSignsRow : OpenClaim := { program := "ytomjgjdnlbpleaa", sum := "7a3fc3324ccaeae5c0604842fef25f4b04bd3255ca3b3fb8f5f92b26a5dc53c3", func := "spandrel/spandrellaw02.OctetsSigns", spec := "octetsSigns", apart := false }
def OctetsSignsSaid : Prop := octetsSignsRow.holds Try.pinned (OpenSpec.ofChange octetsSignsSpec)

/-- ITS FALSE NEIGHBOUR: 'it returns false'. Refute it at one input. -/
def octetsSignsWrong : ChangeSpec := { name := "octetsSigns", fn := fun _ => fun
  | [d] => { results := [.lit (.bool false)], args := [d] }
  | _ => none }
def OctetsSignsWrongFalsely : Prop := octetsSignsRow.holds Try.pinned (OpenSpec.ofChange octetsSignsWrong)

/-- 'spandrellaw02.OctetsReads': WHATEVER THE INPUT: true; the input reads as it did. -/
def octetsReadsSpec : ChangeSpec := { name := "octetsReads", fn := fun _ => fun
  | [d] => { results := [.lit (.bool true)], args := [d] }
  | _ => none }
def octetsReadsRow : OpenClaim := { program := "ytomjgjdnlbpleaa", sum := "7a3fc3324ccaeae5c0604842fef25f4b04bd3255ca3b3fb8f5f92b26a5dc53c3", func := "spandrel/spandrellaw02.OctetsReads", spec := "octetsReads", apart := false }
def OctetsReadsSaid : Prop := octetsReadsRow.holds Try.pinned (OpenSpec.ofChange octetsReadsSpec)

/-- ITS FALSE NEIGHBOUR: 'it returns false'. Refute it at one input. -/
def octetsReadsWrong : ChangeSpec := { name := "octetsReads", fn := fun _ => fun
  | [d] => { results := [.lit (.bool false)], args := [d] }
  | _ => none }
def OctetsReadsWrongFalsely : Prop := octetsReadsRow.holds Try.pinned (OpenSpec.ofChange octetsReadsWrong)

/-- 'spandrellaw02.OctetsBack': WHATEVER THE INPUT: true; the input reads as it did. -/
def octetsBackSpec : ChangeSpec := { name := "octetsBack", fn := fun _ => fun
  | [d1, d2] => { results := [.lit (.bool true)], args := [d1, d2] }
  | _ => none }
def octetsBackRow : OpenClaim := { program := "ytomjgjdnlbpleaa", sum := "7a3fc3324ccaeae5c0604842fef25f4b04bd3255ca3b3fb8f5f92b26a5dc53c3", func := "spandrel/spandrellaw02.OctetsBack", spec := "octetsBack", apart := false }
def OctetsBackSaid : Prop := octetsBackRow.holds Try.pinned (OpenSpec.ofChange octetsBackSpec)

/-- ITS FALSE NEIGHBOUR: 'it returns false'. Refute it at one input. -/
def octetsBackWrong : ChangeSpec := { name := "octetsBack", fn := fun _ => fun
  | [d1, d2] => { results := [.lit (.bool false)], args := [d1, d2] }
  | _ => none }
def OctetsBackWrongFalsely : Prop := octetsBackRow.holds Try.pinned (OpenSpec.ofChange octetsBackWrong)

/-- 'spandrellaw02.OctetsOnly': WHATEVER THE INPUT: true; the input reads as it did. -/
def octetsOnlySpec : ChangeSpec := { name := "octetsOnly", fn := fun _ => fun
  | [d] => { results := [.lit (.bool true)], args := [d] }
  | _ => none }
def octetsOnlyRow : OpenClaim := { program := "ytomjgjdnlbpleaa", sum := "7a3fc3324ccaeae5c0604842fef25f4b04bd3255ca3b3fb8f5f92b26a5dc53c3", func := "spandrel/spandrellaw02.OctetsOnly", spec := "octetsOnly", apart := false }
def OctetsOnlySaid : Prop := octetsOnlyRow.holds Try.pinned (OpenSpec.ofChange octetsOnlySpec)

/-- ITS FALSE NEIGHBOUR: 'it returns false'. Refute it at one input. -/
def octetsOnlyWrong : ChangeSpec := { name := "octetsOnly", fn := fun _ => fun
  | [d] => { results := [.lit (.bool false)], args := [d] }
  | _ => none }
def OctetsOnlyWrongFalsely : Prop := octetsOnlyRow.holds Try.pinned (OpenSpec.ofChange octetsOnlyWrong)

/-- 'spandrellaw01.StreamOctets': WHATEVER THE INPUT: true; the input reads as it did. -/
def streamOctetsSpec : ChangeSpec := { name := "streamOctets", fn := fun _ => fun
  | [d1, d2, d3] => { results := [.lit (.bool true)], args := [d1, d2, d3] }
  | _ => none }
def streamOctetsRow : OpenClaim := { program := "ytomjgjdnlbpleaa", sum := "7a3fc3324ccaeae5c0604842fef25f4b04bd3255ca3b3fb8f5f92b26a5dc53c3", func := "spandrel/spandrellaw01.StreamOctets", spec := "streamOctets", apart := false }
def StreamOctetsSaid : Prop := streamOctetsRow.holds Try.pinned (OpenSpec.ofChange streamOctetsSpec)

/-- ITS FALSE NEIGHBOUR: 'it returns false'. Refute it at one input. -/
def streamOctetsWrong : ChangeSpec := { name := "streamOctets", fn := fun _ => fun
  | [d1, d2, d3] => { results := [.lit (.bool false)], args := [d1, d2, d3] }
  | _ => none }
def StreamOctetsWrongFalsely : Prop := streamOctetsRow.holds Try.pinned (OpenSpec.ofChange streamOctetsWrong)

/-- 'spandrellaw01.StreamReads': WHATEVER THE INPUT: true; the input reads as it did. -/
def streamReadsSpec : ChangeSpec := { name := "streamReads", fn := fun _ => fun
  | [d1, d2] => { results := [.lit (.bool true)], args := [d1, d2] }
  | _ => none }
def streamReadsRow : OpenClaim := { program := "ytomjgjdnlbpleaa", sum := "7a3fc3324ccaeae5c0604842fef25f4b04bd3255ca3b3fb8f5f92b26a5dc53c3", func := "spandrel/spandrellaw01.StreamReads", spec := "streamReads", apart := false }
def StreamReadsSaid : Prop := streamReadsRow.holds Try.pinned (OpenSpec.ofChange streamReadsSpec)

/-- ITS FALSE NEIGHBOUR: 'it returns false'. Refute it at one input. -/
def streamReadsWrong : ChangeSpec := { name := "streamReads", fn := fun _ => fun
  | [d1, d2] => { results := [.lit (.bool false)], args := [d1, d2] }
  | _ => none }
def StreamReadsWrongFalsely : Prop := streamReadsRow.holds Try.pinned (OpenSpec.ofChange streamReadsWrong)

/-- 'spandrellaw01.StreamNone': WHATEVER THE INPUT: true; the input reads as it did. -/
def streamNoneSpec : ChangeSpec := { name := "streamNone", fn := fun _ => fun
  | [d1, d2, d3] => { results := [.lit (.bool true)], args := [d1, d2, d3] }
  | _ => none }
def streamNoneRow : OpenClaim := { program := "ytomjgjdnlbpleaa", sum := "7a3fc3324ccaeae5c0604842fef25f4b04bd3255ca3b3fb8f5f92b26a5dc53c3", func := "spandrel/spandrellaw01.StreamNone", spec := "streamNone", apart := false }
def StreamNoneSaid : Prop := streamNoneRow.holds Try.pinned (OpenSpec.ofChange streamNoneSpec)

/-- ITS FALSE NEIGHBOUR: 'it returns false'. Refute it at one input. -/
def streamNoneWrong : ChangeSpec := { name := "streamNone", fn := fun _ => fun
  | [d1, d2, d3] => { results := [.lit (.bool false)], args := [d1, d2, d3] }
  | _ => none }
def StreamNoneWrongFalsely : Prop := streamNoneRow.holds Try.pinned (OpenSpec.ofChange streamNoneWrong)

/-- 'spandrellaw01.StreamBack': WHATEVER THE INPUT: true; the input reads as it did. -/
def streamBackSpec : ChangeSpec := { name := "streamBack", fn := fun _ => fun
  | [d] => { results := [.lit (.bool true)], args := [d] }
  | _ => none }
def streamBackRow : OpenClaim := { program := "ytomjgjdnlbpleaa", sum := "7a3fc3324ccaeae5c0604842fef25f4b04bd3255ca3b3fb8f5f92b26a5dc53c3", func := "spandrel/spandrellaw01.StreamBack", spec := "streamBack", apart := false }
def StreamBackSaid : Prop := streamBackRow.holds Try.pinned (OpenSpec.ofChange streamBackSpec)

/-- ITS FALSE NEIGHBOUR: 'it returns false'. Refute it at one input. -/
def streamBackWrong : ChangeSpec := { name := "streamBack", fn := fun _ => fun
  | [d] => { results := [.lit (.bool false)], args := [d] }
  | _ => none }
def StreamBackWrongFalsely : Prop := streamBackRow.holds Try.pinned (OpenSpec.ofChange streamBackWrong)

/- THE SECOND FORM. 'bulk': how many values and letters a reading holds, each counted each time it is reached (what is shared counts as often as it is met; a slice's spare places count too). A statement '..UptoSaid' is the law's where the arguments, and the package variables that the reading takes, are together of bulk at most 1048576: NARROWER than '..Said'. Prove '..Said' where nothing that the law and all that it calls make is longer than what came in: it says more and counts as full. Else prove '..UptoSaid'. A law counts once. -/
mutual
def uptoBulk {H : Type} : DataW H → Nat
  | .lit (.string bytes) => bytes.length + 1
  | .lit _ => 1
  | .nil => 1
  | .ptr d => uptoBulk d + 1
  | .slice elems spare => uptoBulkAll elems + uptoBulkAll spare + 1
  | .agg parts => uptoBulkAll parts + 1
  | .iface _ d => uptoBulk d + 1
  | .map entries => uptoBulkEntries entries + 1
  | .held _ => 1
def uptoBulkAll {H : Type} : List (DataW H) → Nat
  | [] => 0
  | d :: r => uptoBulk d + uptoBulkAll r
def uptoBulkEntries {H : Type} : List (Lit × DataW H) → Nat
  | [] => 0
  | x :: r => uptoBulkEntry x + uptoBulkEntries r
def uptoBulkEntry {H : Type} : Lit × DataW H → Nat
  | (.string bytes, d) => bytes.length + uptoBulk d + 1
  | (_, d) => uptoBulk d + 1
 end
def uptoSmall : (H : Type) → List (DataW H) → Bool := fun _ ds => decide (uptoBulkAll ds ≤ 1048576)
def OpenSpec.upto (s : _root_.Go.ChangeSpec) : _root_.Go.OpenSpec := { _root_.Go.OpenSpec.ofChange s with cond := some uptoSmall }

/-- 'spandrellaw01.StreamWrites', WHERE WHAT IT READS IS OF BULK AT MOST 1048576: true; the input reads as it did. -/
def streamWritesUptoRow : OpenClaim := { program := "ytomjgjdnlbpleaa", sum := "7a3fc3324ccaeae5c0604842fef25f4b04bd3255ca3b3fb8f5f92b26a5dc53c3", func := "spandrel/spandrellaw01.StreamWrites", spec := "streamWrites", apart := false, narrowed := true }
def StreamWritesUptoSaid : Prop := streamWritesUptoRow.holds Try.pinned (OpenSpec.upto streamWritesSpec)

/-- 'spandrellaw01.StreamParts', WHERE WHAT IT READS IS OF BULK AT MOST 1048576: true; the input reads as it did. -/
def streamPartsUptoRow : OpenClaim := { program := "ytomjgjdnlbpleaa", sum := "7a3fc3324ccaeae5c0604842fef25f4b04bd3255ca3b3fb8f5f92b26a5dc53c3", func := "spandrel/spandrellaw01.StreamParts", spec := "streamParts", apart := false, narrowed := true }
def StreamPartsUptoSaid : Prop := streamPartsUptoRow.holds Try.pinned (OpenSpec.upto streamPartsSpec)

/-- 'spandrellaw02.OctetsWrites', WHERE WHAT IT READS IS OF BULK AT MOST 1048576: true; the input reads as it did. -/
def octetsWritesUptoRow : OpenClaim := { program := "ytomjgjdnlbpleaa", sum := "7a3fc3324ccaeae5c0604842fef25f4b04bd3255ca3b3fb8f5f92b26a5dc53c3", func := "spandrel/spandrellaw02.OctetsWrites", spec := "octetsWrites", apart := false, narrowed := true }
def OctetsWritesUptoSaid : Prop := octetsWritesUptoRow.holds Try.pinned (OpenSpec.upto octetsWritesSpec)

/-- 'spandrellaw02.OctetsOrder', WHERE WHAT IT READS IS OF BULK AT MOST 1048576: true; the input reads as it did. -/
def octetsOrderUptoRow : OpenClaim := { program := "ytomjgjdnlbpleaa", sum := "7a3fc3324ccaeae5c0604842fef25f4b04bd3255ca3b3fb8f5f92b26a5dc53c3", func := "spandrel/spandrellaw02.OctetsOrder", spec := "octetsOrder", apart := false, narrowed := true }
def OctetsOrderUptoSaid : Prop := octetsOrderUptoRow.holds Try.pinned (OpenSpec.upto octetsOrderSpec)

/-- 'spandrellaw02.OctetsSigns', WHERE WHAT IT READS IS OF BULK AT MOST 1048576: true; the input reads as it did. -/
def octetsSignsUptoRow : OpenClaim := { program := "ytomjgjdnlbpleaa", sum := "7a3fc3324ccaeae5c0604842fef25f4b04bd3255ca3b3fb8f5f92b26a5dc53c3", func := "spandrel/spandrellaw02.OctetsSigns", spec := "octetsSigns", apart := false, narrowed := true }
def OctetsSignsUptoSaid : Prop := octetsSignsUptoRow.holds Try.pinned (OpenSpec.upto octetsSignsSpec)

/-- 'spandrellaw02.OctetsReads', WHERE WHAT IT READS IS OF BULK AT MOST 1048576: true; the input reads as it did. -/
def octetsReadsUptoRow : OpenClaim := { program := "ytomjgjdnlbpleaa", sum := "7a3fc3324ccaeae5c0604842fef25f4b04bd3255ca3b3fb8f5f92b26a5dc53c3", func := "spandrel/spandrellaw02.OctetsReads", spec := "octetsReads", apart := false, narrowed := true }
def OctetsReadsUptoSaid : Prop := octetsReadsUptoRow.holds Try.pinned (OpenSpec.upto octetsReadsSpec)

/-- 'spandrellaw02.OctetsBack', WHERE WHAT IT READS IS OF BULK AT MOST 1048576: true; the input reads as it did. -/
def octetsBackUptoRow : OpenClaim := { program := "ytomjgjdnlbpleaa", sum := "7a3fc3324ccaeae5c0604842fef25f4b04bd3255ca3b3fb8f5f92b26a5dc53c3", func := "spandrel/spandrellaw02.OctetsBack", spec := "octetsBack", apart := false, narrowed := true }
def OctetsBackUptoSaid : Prop := octetsBackUptoRow.holds Try.pinned (OpenSpec.upto octetsBackSpec)

/-- 'spandrellaw02.OctetsOnly', WHERE WHAT IT READS IS OF BULK AT MOST 1048576: true; the input reads as it did. -/
def octetsOnlyUptoRow : OpenClaim := { program := "ytomjgjdnlbpleaa", sum := "7a3fc3324ccaeae5c0604842fef25f4b04bd3255ca3b3fb8f5f92b26a5dc53c3", func := "spandrel/spandrellaw02.OctetsOnly", spec := "octetsOnly", apart := false, narrowed := true }
def OctetsOnlyUptoSaid : Prop := octetsOnlyUptoRow.holds Try.pinned (OpenSpec.upto octetsOnlySpec)

/-- 'spandrellaw01.StreamOctets', WHERE WHAT IT READS IS OF BULK AT MOST 1048576: true; the input reads as it did. -/
def streamOctetsUptoRow : OpenClaim := { program := "ytomjgjdnlbpleaa", sum := "7a3fc3324ccaeae5c0604842fef25f4b04bd3255ca3b3fb8f5f92b26a5dc53c3", func := "spandrel/spandrellaw01.StreamOctets", spec := "streamOctets", apart := false, narrowed := true }
def StreamOctetsUptoSaid : Prop := streamOctetsUptoRow.holds Try.pinned (OpenSpec.upto streamOctetsSpec)

/-- 'spandrellaw01.StreamReads', WHERE WHAT IT READS IS OF BULK AT MOST 1048576: true; the input reads as it did. -/
def streamReadsUptoRow : OpenClaim := { program := "ytomjgjdnlbpleaa", sum := "7a3fc3324ccaeae5c0604842fef25f4b04bd3255ca3b3fb8f5f92b26a5dc53c3", func := "spandrel/spandrellaw01.StreamReads", spec := "streamReads", apart := false, narrowed := true }
def StreamReadsUptoSaid : Prop := streamReadsUptoRow.holds Try.pinned (OpenSpec.upto streamReadsSpec)

/-- 'spandrellaw01.StreamNone', WHERE WHAT IT READS IS OF BULK AT MOST 1048576: true; the input reads as it did. -/
def streamNoneUptoRow : OpenClaim := { program := "ytomjgjdnlbpleaa", sum := "7a3fc3324ccaeae5c0604842fef25f4b04bd3255ca3b3fb8f5f92b26a5dc53c3", func := "spandrel/spandrellaw01.StreamNone", spec := "streamNone", apart := false, narrowed := true }
def StreamNoneUptoSaid : Prop := streamNoneUptoRow.holds Try.pinned (OpenSpec.upto streamNoneSpec)

/-- 'spandrellaw01.StreamBack', WHERE WHAT IT READS IS OF BULK AT MOST 1048576: true; the input reads as it did. -/
def streamBackUptoRow : OpenClaim := { program := "ytomjgjdnlbpleaa", sum := "7a3fc3324ccaeae5c0604842fef25f4b04bd3255ca3b3fb8f5f92b26a5dc53c3", func := "spandrel/spandrellaw01.StreamBack", spec := "streamBack", apart := false, narrowed := true }
def StreamBackUptoSaid : Prop := streamBackUptoRow.holds Try.pinned (OpenSpec.upto streamBackSpec)

end Rows
end Go.Proofs.Ytomjgjdnlbpleaa
