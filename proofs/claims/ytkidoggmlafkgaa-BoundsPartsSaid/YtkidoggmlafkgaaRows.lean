/-
  NARROWER THAN 'FOR EVERY INPUT', by the rows' own cells (each row's printed sentence says how): BoundsSets: loops · BoundsParts: loops · BoundsEnds: loops · BoundsHas: loops.
  DERIVED. THE GIVEN ROWS OF THIS SEAT. 10 by the template 'for every input the law returns true; each argument reads behind the call as it read before'; 0 by the template 'total and deterministic' (their statements: YtkidoggmlafkgaaTotals.lean).
  GIVEN WITH THE SEED: the statements are not yours to turn. If you find one false, say at which input.
  Laid BY PROGRAM, IN A SANDBOX (cutbox-rows.mjs): the forced cells as the released guide's own fill.sh prints them over the translation 8471f2f365c85d6a… (all of the seat's roots in one cut). By AI agents, Wed Nov 11 2026. No macro, syntax, notation, axiom, sorry.
-/
import Derived.Test.YtkidoggmlafkgaaChecked
import GoSem.Claim
import GoSem.ClaimJoined
import GoSem.ClaimMapViews
import Derived.JoinedTies
import Derived.KernelRfl
namespace Go.Proofs.Ytkidoggmlafkgaa
/- THE CELL 'sum', in the pinned program and in every row, IS THE sha256 OF THE DUMP (.gsa) THAT YtkidoggmlafkgaaProg.lean LOADS. Nothing in Lean hashes anything: it is a label: what it is worth is what the hold of that sum in a sandbox is worth. -/
noncomputable def Try.pinned : Pinned := { name := "ytkidoggmlafkgaa", sum := "8471f2f365c85d6a382cde9cc36b2823907d80700f499d932dfad63130dc7bec", checked := Try.checked }
namespace Rows
def none {H : Type} : Left H := { results := [], args := [] }

/-- 'spandrellaw11.SpansNorms': WHATEVER THE INPUT: true; the input reads as it did. -/
def spansNormsSpec : ChangeSpec := { name := "spansNorms", fn := fun _ => fun
  | [d1, d2] => { results := [.lit (.bool true)], args := [d1, d2] }
  | _ => none }
def spansNormsRow : OpenClaim := { program := "ytkidoggmlafkgaa", sum := "8471f2f365c85d6a382cde9cc36b2823907d80700f499d932dfad63130dc7bec", func := "spandrel/spandrellaw11.SpansNorms", spec := "spansNorms", unfollowed := true, recurses := true, apart := false }
def SpansNormsSaid : Prop := spansNormsRow.holds Try.pinned (OpenSpec.ofChange spansNormsSpec)

/-- ITS FALSE NEIGHBOUR: 'it returns false'. Refute it at one input. -/
def spansNormsWrong : ChangeSpec := { name := "spansNorms", fn := fun _ => fun
  | [d1, d2] => { results := [.lit (.bool false)], args := [d1, d2] }
  | _ => none }
def SpansNormsWrongFalsely : Prop := spansNormsRow.holds Try.pinned (OpenSpec.ofChange spansNormsWrong)

/-- 'spandrellaw11.SpansDoes': WHATEVER THE INPUT: true; the input reads as it did. -/
def spansDoesSpec : ChangeSpec := { name := "spansDoes", fn := fun _ => fun
  | [d1, d2] => { results := [.lit (.bool true)], args := [d1, d2] }
  | _ => none }
def spansDoesRow : OpenClaim := { program := "ytkidoggmlafkgaa", sum := "8471f2f365c85d6a382cde9cc36b2823907d80700f499d932dfad63130dc7bec", func := "spandrel/spandrellaw11.SpansDoes", spec := "spansDoes", unfollowed := true, recurses := true, apart := false }
def SpansDoesSaid : Prop := spansDoesRow.holds Try.pinned (OpenSpec.ofChange spansDoesSpec)

/-- ITS FALSE NEIGHBOUR: 'it returns false'. Refute it at one input. -/
def spansDoesWrong : ChangeSpec := { name := "spansDoes", fn := fun _ => fun
  | [d1, d2] => { results := [.lit (.bool false)], args := [d1, d2] }
  | _ => none }
def SpansDoesWrongFalsely : Prop := spansDoesRow.holds Try.pinned (OpenSpec.ofChange spansDoesWrong)

/-- 'spandrellaw11.SpansLaws': WHATEVER THE INPUT: true; the input reads as it did. -/
def spansLawsSpec : ChangeSpec := { name := "spansLaws", fn := fun _ => fun
  | [d1, d2] => { results := [.lit (.bool true)], args := [d1, d2] }
  | _ => none }
def spansLawsRow : OpenClaim := { program := "ytkidoggmlafkgaa", sum := "8471f2f365c85d6a382cde9cc36b2823907d80700f499d932dfad63130dc7bec", func := "spandrel/spandrellaw11.SpansLaws", spec := "spansLaws", unfollowed := true, recurses := true, apart := false }
def SpansLawsSaid : Prop := spansLawsRow.holds Try.pinned (OpenSpec.ofChange spansLawsSpec)

/-- ITS FALSE NEIGHBOUR: 'it returns false'. Refute it at one input. -/
def spansLawsWrong : ChangeSpec := { name := "spansLaws", fn := fun _ => fun
  | [d1, d2] => { results := [.lit (.bool false)], args := [d1, d2] }
  | _ => none }
def SpansLawsWrongFalsely : Prop := spansLawsRow.holds Try.pinned (OpenSpec.ofChange spansLawsWrong)

/-- 'spandrellaw11.SpansApart': WHATEVER THE INPUT: true; the input reads as it did. -/
def spansApartSpec : ChangeSpec := { name := "spansApart", fn := fun _ => fun
  | [d] => { results := [.lit (.bool true)], args := [d] }
  | _ => none }
def spansApartRow : OpenClaim := { program := "ytkidoggmlafkgaa", sum := "8471f2f365c85d6a382cde9cc36b2823907d80700f499d932dfad63130dc7bec", func := "spandrel/spandrellaw11.SpansApart", spec := "spansApart", unfollowed := true, recurses := true, apart := false }
def SpansApartSaid : Prop := spansApartRow.holds Try.pinned (OpenSpec.ofChange spansApartSpec)

/-- ITS FALSE NEIGHBOUR: 'it returns false'. Refute it at one input. -/
def spansApartWrong : ChangeSpec := { name := "spansApart", fn := fun _ => fun
  | [d] => { results := [.lit (.bool false)], args := [d] }
  | _ => none }
def SpansApartWrongFalsely : Prop := spansApartRow.holds Try.pinned (OpenSpec.ofChange spansApartWrong)

/-- 'spandrellaw11.SpansHas': WHATEVER THE INPUT: true; the input reads as it did. -/
def spansHasSpec : ChangeSpec := { name := "spansHas", fn := fun _ => fun
  | [d1, d2, d3] => { results := [.lit (.bool true)], args := [d1, d2, d3] }
  | _ => none }
def spansHasRow : OpenClaim := { program := "ytkidoggmlafkgaa", sum := "8471f2f365c85d6a382cde9cc36b2823907d80700f499d932dfad63130dc7bec", func := "spandrel/spandrellaw11.SpansHas", spec := "spansHas", unfollowed := true, recurses := true, apart := false }
def SpansHasSaid : Prop := spansHasRow.holds Try.pinned (OpenSpec.ofChange spansHasSpec)

/-- ITS FALSE NEIGHBOUR: 'it returns false'. Refute it at one input. -/
def spansHasWrong : ChangeSpec := { name := "spansHas", fn := fun _ => fun
  | [d1, d2, d3] => { results := [.lit (.bool false)], args := [d1, d2, d3] }
  | _ => none }
def SpansHasWrongFalsely : Prop := spansHasRow.holds Try.pinned (OpenSpec.ofChange spansHasWrong)

/-- 'spandrellaw11.SpansOne': WHATEVER THE INPUT: true; the input reads as it did. -/
def spansOneSpec : ChangeSpec := { name := "spansOne", fn := fun _ => fun
  | [d1, d2, d3] => { results := [.lit (.bool true)], args := [d1, d2, d3] }
  | _ => none }
def spansOneRow : OpenClaim := { program := "ytkidoggmlafkgaa", sum := "8471f2f365c85d6a382cde9cc36b2823907d80700f499d932dfad63130dc7bec", func := "spandrel/spandrellaw11.SpansOne", spec := "spansOne", unfollowed := true, recurses := true, apart := false }
def SpansOneSaid : Prop := spansOneRow.holds Try.pinned (OpenSpec.ofChange spansOneSpec)

/-- ITS FALSE NEIGHBOUR: 'it returns false'. Refute it at one input. -/
def spansOneWrong : ChangeSpec := { name := "spansOne", fn := fun _ => fun
  | [d1, d2, d3] => { results := [.lit (.bool false)], args := [d1, d2, d3] }
  | _ => none }
def SpansOneWrongFalsely : Prop := spansOneRow.holds Try.pinned (OpenSpec.ofChange spansOneWrong)

/-- 'spandrellaw12.BoundsSets': WHATEVER THE INPUT: true; the input reads as it did. -/
def boundsSetsSpec : ChangeSpec := { name := "boundsSets", fn := fun _ => fun
  | [d1, d2] => { results := [.lit (.bool true)], args := [d1, d2] }
  | _ => none }
def boundsSetsRow : OpenClaim := { program := "ytkidoggmlafkgaa", sum := "8471f2f365c85d6a382cde9cc36b2823907d80700f499d932dfad63130dc7bec", func := "spandrel/spandrellaw12.BoundsSets", spec := "boundsSets", unfollowed := true, recurses := true, loops := true, apart := false }
def BoundsSetsSaid : Prop := boundsSetsRow.holds Try.pinned (OpenSpec.ofChange boundsSetsSpec)

/-- ITS FALSE NEIGHBOUR: 'it returns false'. Refute it at one input. -/
def boundsSetsWrong : ChangeSpec := { name := "boundsSets", fn := fun _ => fun
  | [d1, d2] => { results := [.lit (.bool false)], args := [d1, d2] }
  | _ => none }
def BoundsSetsWrongFalsely : Prop := boundsSetsRow.holds Try.pinned (OpenSpec.ofChange boundsSetsWrong)

/-- 'spandrellaw12.BoundsParts': WHATEVER THE INPUT: true; the input reads as it did. -/
def boundsPartsSpec : ChangeSpec := { name := "boundsParts", fn := fun _ => fun
  | [d1, d2, d3] => { results := [.lit (.bool true)], args := [d1, d2, d3] }
  | _ => none }
def boundsPartsRow : OpenClaim := { program := "ytkidoggmlafkgaa", sum := "8471f2f365c85d6a382cde9cc36b2823907d80700f499d932dfad63130dc7bec", func := "spandrel/spandrellaw12.BoundsParts", spec := "boundsParts", unfollowed := true, recurses := true, loops := true, apart := false }
def BoundsPartsSaid : Prop := boundsPartsRow.holds Try.pinned (OpenSpec.ofChange boundsPartsSpec)

/-- ITS FALSE NEIGHBOUR: 'it returns false'. Refute it at one input. -/
def boundsPartsWrong : ChangeSpec := { name := "boundsParts", fn := fun _ => fun
  | [d1, d2, d3] => { results := [.lit (.bool false)], args := [d1, d2, d3] }
  | _ => none }
def BoundsPartsWrongFalsely : Prop := boundsPartsRow.holds Try.pinned (OpenSpec.ofChange boundsPartsWrong)

/-- 'spandrellaw12.BoundsEnds': WHATEVER THE INPUT: true; the input reads as it did. -/
def boundsEndsSpec : ChangeSpec := { name := "boundsEnds", fn := fun _ => fun
  | [d1, d2, d3] => { results := [.lit (.bool true)], args := [d1, d2, d3] }
  | _ => none }
def boundsEndsRow : OpenClaim := { program := "ytkidoggmlafkgaa", sum := "8471f2f365c85d6a382cde9cc36b2823907d80700f499d932dfad63130dc7bec", func := "spandrel/spandrellaw12.BoundsEnds", spec := "boundsEnds", unfollowed := true, recurses := true, loops := true, apart := false }
def BoundsEndsSaid : Prop := boundsEndsRow.holds Try.pinned (OpenSpec.ofChange boundsEndsSpec)

/-- ITS FALSE NEIGHBOUR: 'it returns false'. Refute it at one input. -/
def boundsEndsWrong : ChangeSpec := { name := "boundsEnds", fn := fun _ => fun
  | [d1, d2, d3] => { results := [.lit (.bool false)], args := [d1, d2, d3] }
  | _ => none }
def BoundsEndsWrongFalsely : Prop := boundsEndsRow.holds Try.pinned (OpenSpec.ofChange boundsEndsWrong)

/-- 'spandrellaw12.BoundsHas': WHATEVER THE INPUT: true; the input reads as it did. -/
def boundsHasSpec : ChangeSpec := { name := "boundsHas", fn := fun _ => fun
  | [d1, d2, d3] => { results := [.lit (.bool true)], args := [d1, d2, d3] }
  | _ => none }
def boundsHasRow : OpenClaim := { program := "ytkidoggmlafkgaa", sum := "8471f2f365c85d6a382cde9cc36b2823907d80700f499d932dfad63130dc7bec", func := "spandrel/spandrellaw12.BoundsHas", spec := "boundsHas", unfollowed := true, recurses := true, loops := true, apart := false }
def BoundsHasSaid : Prop := boundsHasRow.holds Try.pinned (OpenSpec.ofChange boundsHasSpec)

/-- ITS FALSE NEIGHBOUR: 'it returns false'. Refute it at one input. -/
def boundsHasWrong : ChangeSpec := { name := "boundsHas", fn := fun _ => fun
  | [d1, d2, d3] => { results := [.lit (.bool false)], args := [d1, d2, d3] }
  | _ => none }
def BoundsHasWrongFalsely : Prop := boundsHasRow.holds Try.pinned (OpenSpec.ofChange boundsHasWrong)

/- THE SECOND FORM. 'bulk': how many values and letters a reading holds, each counted each time it is reached (what is shared counts as often as it is met; a slice's spare places count too). A statement '..UptoSaid' is the law's where the arguments, and the package variables that the reading takes, are together of bulk at most 1048576: NARROWER than '..Said'. Prove '..Said' where nothing that the law and all that it calls make is longer than what came in: it says more and counts as full. Else prove '..UptoSaid'. A law counts once. -/
mutual
def uptoBulk {H : Type} : DataW H → Nat
  | .lit (.string bytes) => bytes.length + 1
  | .lit _ => 1
  | .nil => 1
  | .ptr d => uptoBulk d + 1
  | .slice elems spare => uptoBulkAll elems + uptoBulkAll spare + 1
  | .agg parts => uptoBulkAll parts + 1
  | .iface _ d => uptoBulk d + 1
  | .map entries => uptoBulkEntries entries + 1
  | .held _ => 1
def uptoBulkAll {H : Type} : List (DataW H) → Nat
  | [] => 0
  | d :: r => uptoBulk d + uptoBulkAll r
def uptoBulkEntries {H : Type} : List (Lit × DataW H) → Nat
  | [] => 0
  | x :: r => uptoBulkEntry x + uptoBulkEntries r
def uptoBulkEntry {H : Type} : Lit × DataW H → Nat
  | (.string bytes, d) => bytes.length + uptoBulk d + 1
  | (_, d) => uptoBulk d + 1
 end
def uptoSmall : (H : Type) → List (DataW H) → Bool := fun _ ds => decide (uptoBulkAll ds ≤ 1048576)
def OpenSpec.upto (s : _root_.Go.ChangeSpec) : _root_.Go.OpenSpec := { _root_.Go.OpenSpec.ofChange s with cond := some uptoSmall }

/-- 'spandrellaw11.SpansNorms', WHERE WHAT IT READS IS OF BULK AT MOST 1048576: true; the input reads as it did. -/
def spansNormsUptoRow : OpenClaim := { program := "ytkidoggmlafkgaa", sum := "8471f2f365c85d6a382cde9cc36b2823907d80700f499d932dfad63130dc7bec", func := "spandrel/spandrellaw11.SpansNorms", spec := "spansNorms", unfollowed := true, recurses := true, apart := false, narrowed := true }
def SpansNormsUptoSaid : Prop := spansNormsUptoRow.holds Try.pinned (OpenSpec.upto spansNormsSpec)

/-- 'spandrellaw11.SpansDoes', WHERE WHAT IT READS IS OF BULK AT MOST 1048576: true; the input reads as it did. -/
def spansDoesUptoRow : OpenClaim := { program := "ytkidoggmlafkgaa", sum := "8471f2f365c85d6a382cde9cc36b2823907d80700f499d932dfad63130dc7bec", func := "spandrel/spandrellaw11.SpansDoes", spec := "spansDoes", unfollowed := true, recurses := true, apart := false, narrowed := true }
def SpansDoesUptoSaid : Prop := spansDoesUptoRow.holds Try.pinned (OpenSpec.upto spansDoesSpec)

/-- 'spandrellaw11.SpansLaws', WHERE WHAT IT READS IS OF BULK AT MOST 1048576: true; the input reads as it did. -/
def spansLawsUptoRow : OpenClaim := { program := "ytkidoggmlafkgaa", sum := "8471f2f365c85d6a382cde9cc36b2823907d80700f499d932dfad63130dc7bec", func := "spandrel/spandrellaw11.SpansLaws", spec := "spansLaws", unfollowed := true, recurses := true, apart := false, narrowed := true }
def SpansLawsUptoSaid : Prop := spansLawsUptoRow.holds Try.pinned (OpenSpec.upto spansLawsSpec)

/-- 'spandrellaw11.SpansApart', WHERE WHAT IT READS IS OF BULK AT MOST 1048576: true; the input reads as it did. -/
def spansApartUptoRow : OpenClaim := { program := "ytkidoggmlafkgaa", sum := "8471f2f365c85d6a382cde9cc36b2823907d80700f499d932dfad63130dc7bec", func := "spandrel/spandrellaw11.SpansApart", spec := "spansApart", unfollowed := true, recurses := true, apart := false, narrowed := true }
def SpansApartUptoSaid : Prop := spansApartUptoRow.holds Try.pinned (OpenSpec.upto spansApartSpec)

/-- 'spandrellaw11.SpansHas', WHERE WHAT IT READS IS OF BULK AT MOST 1048576: true; the input reads as it did. -/
def spansHasUptoRow : OpenClaim := { program := "ytkidoggmlafkgaa", sum := "8471f2f365c85d6a382cde9cc36b2823907d80700f499d932dfad63130dc7bec", func := "spandrel/spandrellaw11.SpansHas", spec := "spansHas", unfollowed := true, recurses := true, apart := false, narrowed := true }
def SpansHasUptoSaid : Prop := spansHasUptoRow.holds Try.pinned (OpenSpec.upto spansHasSpec)

/-- 'spandrellaw11.SpansOne', WHERE WHAT IT READS IS OF BULK AT MOST 1048576: true; the input reads as it did. -/
def spansOneUptoRow : OpenClaim := { program := "ytkidoggmlafkgaa", sum := "8471f2f365c85d6a382cde9cc36b2823907d80700f499d932dfad63130dc7bec", func := "spandrel/spandrellaw11.SpansOne", spec := "spansOne", unfollowed := true, recurses := true, apart := false, narrowed := true }
def SpansOneUptoSaid : Prop := spansOneUptoRow.holds Try.pinned (OpenSpec.upto spansOneSpec)

/-- 'spandrellaw12.BoundsSets', WHERE WHAT IT READS IS OF BULK AT MOST 1048576: true; the input reads as it did. -/
def boundsSetsUptoRow : OpenClaim := { program := "ytkidoggmlafkgaa", sum := "8471f2f365c85d6a382cde9cc36b2823907d80700f499d932dfad63130dc7bec", func := "spandrel/spandrellaw12.BoundsSets", spec := "boundsSets", unfollowed := true, recurses := true, loops := true, apart := false, narrowed := true }
def BoundsSetsUptoSaid : Prop := boundsSetsUptoRow.holds Try.pinned (OpenSpec.upto boundsSetsSpec)

/-- 'spandrellaw12.BoundsParts', WHERE WHAT IT READS IS OF BULK AT MOST 1048576: true; the input reads as it did. -/
def boundsPartsUptoRow : OpenClaim := { program := "ytkidoggmlafkgaa", sum := "8471f2f365c85d6a382cde9cc36b2823907d80700f499d932dfad63130dc7bec", func := "spandrel/spandrellaw12.BoundsParts", spec := "boundsParts", unfollowed := true, recurses := true, loops := true, apart := false, narrowed := true }
def BoundsPartsUptoSaid : Prop := boundsPartsUptoRow.holds Try.pinned (OpenSpec.upto boundsPartsSpec)

/-- 'spandrellaw12.BoundsEnds', WHERE WHAT IT READS IS OF BULK AT MOST 1048576: true; the input reads as it did. -/
def boundsEndsUptoRow : OpenClaim := { program := "ytkidoggmlafkgaa", sum := "8471f2f365c85d6a382cde9cc36b2823907d80700f499d932dfad63130dc7bec", func := "spandrel/spandrellaw12.BoundsEnds", spec := "boundsEnds", unfollowed := true, recurses := true, loops := true, apart := false, narrowed := true }
def BoundsEndsUptoSaid : Prop := boundsEndsUptoRow.holds Try.pinned (OpenSpec.upto boundsEndsSpec)

/-- 'spandrellaw12.BoundsHas', WHERE WHAT IT READS IS OF BULK AT MOST 1048576: true; the input reads as it did. -/
def boundsHasUptoRow : OpenClaim := { program := "ytkidoggmlafkgaa", sum := "8471f2f365c85d6a382cde9cc36b2823907d80700f499d932dfad63130dc7bec", func := "spandrel/spandrellaw12.BoundsHas", spec := "boundsHas", unfollowed := true, recurses := true, loops := true, apart := false, narrowed := true }
def BoundsHasUptoSaid : Prop := boundsHasUptoRow.holds Try.pinned (OpenSpec.upto boundsHasSpec)

end Rows
end Go.Proofs.Ytkidoggmlafkgaa
