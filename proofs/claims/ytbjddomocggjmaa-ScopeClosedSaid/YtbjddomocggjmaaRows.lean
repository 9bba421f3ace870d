/-
  NARROWER THAN 'FOR EVERY INPUT', by the rows' own cells (each row's printed sentence says how): FragcheckChecks: loops · FragcheckJoins: loops · FragcheckDeep: loops · ScopeClosed: loops · ScopeImports: loops · ScopeTwice: loops.
  DERIVED. THE GIVEN ROWS OF THIS SEAT. 7 by the template 'for every input the law returns true; each argument reads behind the call as it read before'; 0 by the template 'total and deterministic' (their statements: YtbjddomocggjmaaTotals.lean).
  GIVEN WITH THE SEED: the statements are not yours to turn. If you find one false, say at which input.
  Laid BY PROGRAM, IN A SANDBOX (cutbox-rows.mjs): the forced cells as the released guide's own fill.sh prints them over the translation 4ddf32053fc380a6… (all of the seat's roots in one cut). By AI agents, Wed Nov 11 2026. No macro, syntax, notation, axiom, sorry.
-/
import Derived.Test.YtbjddomocggjmaaChecked
import GoSem.Claim
import GoSem.ClaimJoined
import GoSem.ClaimMapViews
import Derived.JoinedTies
import Derived.KernelRfl
namespace Go.Proofs.Ytbjddomocggjmaa
/- THE CELL 'sum', in the pinned program and in every row, IS THE sha256 OF THE DUMP (.gsa) THAT YtbjddomocggjmaaProg.lean LOADS. Nothing in Lean hashes anything: it is a label: what it is worth is what the hold of that sum in a sandbox is worth. -/
noncomputable def Try.pinned : Pinned := { name := "ytbjddomocggjmaa", sum := "4ddf32053fc380a6d2f735ea22c9ffde1b236d85cb00186d0b554e1dfb537596", checked := Try.checked }
namespace Rows
def none {H : Type} : Left H := { results := [], args := [] }

/-- 'spandrellaw20.FragcheckChecks': WHATEVER THE INPUT: true; the input reads as it did. -/
def fragcheckChecksSpec : ChangeSpec := { name := "fragcheckChecks", fn := fun _ => fun
  | [d1, d2] => { results := [.lit (.bool true)], args := [d1, d2] }
  | _ => none }
def fragcheckChecksRow : OpenClaim := { program := "ytbjddomocggjmaa", sum := "4ddf32053fc380a6d2f735ea22c9ffde1b236d85cb00186d0b554e1dfb537596", func := "spandrel/spandrellaw20.FragcheckChecks", spec := "fragcheckChecks", inPlace := ["internal/bytealg.IndexByteString", "internal/bytealg.IndexString"], unfollowed := true, recurses := true, named := ["internal/bytealg.MaxLen"], loops := true, apart := false }
def FragcheckChecksSaid : Prop := fragcheckChecksRow.holds Try.pinned (OpenSpec.ofChange fragcheckChecksSpec)

/-- ITS FALSE NEIGHBOUR: 'it returns false'. Refute it at one input. -/
def fragcheckChecksWrong : ChangeSpec := { name := "fragcheckChecks", fn := fun _ => fun
  | [d1, d2] => { results := [.lit (.bool false)], args := [d1, d2] }
  | _ => none }
def FragcheckChecksWrongFalsely : Prop := fragcheckChecksRow.holds Try.pinned (OpenSpec.ofChange fragcheckChecksWrong)

/-- 'spandrellaw20.FragcheckMethods': WHATEVER THE INPUT: true; the input reads as it did. -/
def fragcheckMethodsSpec : ChangeSpec := { name := "fragcheckMethods", fn := fun _ => fun
  | [d1, d2, d3] => { results := [.lit (.bool true)], args := [d1, d2, d3] }
  | _ => none }
def fragcheckMethodsRow : OpenClaim := { program := "ytbjddomocggjmaa", sum := "4ddf32053fc380a6d2f735ea22c9ffde1b236d85cb00186d0b554e1dfb537596", func := "spandrel/spandrellaw20.FragcheckMethods", spec := "fragcheckMethods", inPlace := ["internal/bytealg.IndexByteString", "internal/bytealg.IndexString"], unfollowed := true, recurses := true, named := ["internal/bytealg.MaxLen"], apart := false }
def FragcheckMethodsSaid : Prop := fragcheckMethodsRow.holds Try.pinned (OpenSpec.ofChange fragcheckMethodsSpec)

/-- ITS FALSE NEIGHBOUR: 'it returns false'. Refute it at one input. -/
def fragcheckMethodsWrong : ChangeSpec := { name := "fragcheckMethods", fn := fun _ => fun
  | [d1, d2, d3] => { results := [.lit (.bool false)], args := [d1, d2, d3] }
  | _ => none }
def FragcheckMethodsWrongFalsely : Prop := fragcheckMethodsRow.holds Try.pinned (OpenSpec.ofChange fragcheckMethodsWrong)

/-- 'spandrellaw20.FragcheckJoins': WHATEVER THE INPUT: true; the input reads as it did. -/
def fragcheckJoinsSpec : ChangeSpec := { name := "fragcheckJoins", fn := fun _ => fun
  | [d1, d2] => { results := [.lit (.bool true)], args := [d1, d2] }
  | _ => none }
def fragcheckJoinsRow : OpenClaim := { program := "ytbjddomocggjmaa", sum := "4ddf32053fc380a6d2f735ea22c9ffde1b236d85cb00186d0b554e1dfb537596", func := "spandrel/spandrellaw20.FragcheckJoins", spec := "fragcheckJoins", inPlace := ["internal/bytealg.IndexByteString", "internal/bytealg.IndexString"], unfollowed := true, recurses := true, named := ["internal/bytealg.MaxLen"], loops := true, apart := false }
def FragcheckJoinsSaid : Prop := fragcheckJoinsRow.holds Try.pinned (OpenSpec.ofChange fragcheckJoinsSpec)

/-- ITS FALSE NEIGHBOUR: 'it returns false'. Refute it at one input. -/
def fragcheckJoinsWrong : ChangeSpec := { name := "fragcheckJoins", fn := fun _ => fun
  | [d1, d2] => { results := [.lit (.bool false)], args := [d1, d2] }
  | _ => none }
def FragcheckJoinsWrongFalsely : Prop := fragcheckJoinsRow.holds Try.pinned (OpenSpec.ofChange fragcheckJoinsWrong)

/-- 'spandrellaw20.FragcheckDeep': WHATEVER THE INPUT: true; the input reads as it did. -/
def fragcheckDeepSpec : ChangeSpec := { name := "fragcheckDeep", fn := fun _ => fun
  | [d] => { results := [.lit (.bool true)], args := [d] }
  | _ => none }
def fragcheckDeepRow : OpenClaim := { program := "ytbjddomocggjmaa", sum := "4ddf32053fc380a6d2f735ea22c9ffde1b236d85cb00186d0b554e1dfb537596", func := "spandrel/spandrellaw20.FragcheckDeep", spec := "fragcheckDeep", inPlace := ["internal/bytealg.IndexByteString", "internal/bytealg.IndexString"], unfollowed := true, recurses := true, named := ["internal/bytealg.MaxLen"], loops := true, apart := false }
def FragcheckDeepSaid : Prop := fragcheckDeepRow.holds Try.pinned (OpenSpec.ofChange fragcheckDeepSpec)

/-- ITS FALSE NEIGHBOUR: 'it returns false'. Refute it at one input. -/
def fragcheckDeepWrong : ChangeSpec := { name := "fragcheckDeep", fn := fun _ => fun
  | [d] => { results := [.lit (.bool false)], args := [d] }
  | _ => none }
def FragcheckDeepWrongFalsely : Prop := fragcheckDeepRow.holds Try.pinned (OpenSpec.ofChange fragcheckDeepWrong)

/-- 'spandrellaw10.ScopeClosed': WHATEVER THE INPUT: true; the input reads as it did. -/
def scopeClosedSpec : ChangeSpec := { name := "scopeClosed", fn := fun _ => fun
  | [d] => { results := [.lit (.bool true)], args := [d] }
  | _ => none }
def scopeClosedRow : OpenClaim := { program := "ytbjddomocggjmaa", sum := "4ddf32053fc380a6d2f735ea22c9ffde1b236d85cb00186d0b554e1dfb537596", func := "spandrel/spandrellaw10.ScopeClosed", spec := "scopeClosed", unfollowed := true, recurses := true, loops := true, apart := false }
def ScopeClosedSaid : Prop := scopeClosedRow.holds Try.pinned (OpenSpec.ofChange scopeClosedSpec)

/-- ITS FALSE NEIGHBOUR: 'it returns false'. Refute it at one input. -/
def scopeClosedWrong : ChangeSpec := { name := "scopeClosed", fn := fun _ => fun
  | [d] => { results := [.lit (.bool false)], args := [d] }
  | _ => none }
def ScopeClosedWrongFalsely : Prop := scopeClosedRow.holds Try.pinned (OpenSpec.ofChange scopeClosedWrong)

/-- 'spandrellaw10.ScopeImports': WHATEVER THE INPUT: true; the input reads as it did. -/
def scopeImportsSpec : ChangeSpec := { name := "scopeImports", fn := fun _ => fun
  | [d1, d2, d3, d4] => { results := [.lit (.bool true)], args := [d1, d2, d3, d4] }
  | _ => none }
def scopeImportsRow : OpenClaim := { program := "ytbjddomocggjmaa", sum := "4ddf32053fc380a6d2f735ea22c9ffde1b236d85cb00186d0b554e1dfb537596", func := "spandrel/spandrellaw10.ScopeImports", spec := "scopeImports", unfollowed := true, recurses := true, loops := true, apart := false }
def ScopeImportsSaid : Prop := scopeImportsRow.holds Try.pinned (OpenSpec.ofChange scopeImportsSpec)

/-- ITS FALSE NEIGHBOUR: 'it returns false'. Refute it at one input. -/
def scopeImportsWrong : ChangeSpec := { name := "scopeImports", fn := fun _ => fun
  | [d1, d2, d3, d4] => { results := [.lit (.bool false)], args := [d1, d2, d3, d4] }
  | _ => none }
def ScopeImportsWrongFalsely : Prop := scopeImportsRow.holds Try.pinned (OpenSpec.ofChange scopeImportsWrong)

/-- 'spandrellaw10.ScopeTwice': WHATEVER THE INPUT: true; the input reads as it did. -/
def scopeTwiceSpec : ChangeSpec := { name := "scopeTwice", fn := fun _ => fun
  | [d1, d2] => { results := [.lit (.bool true)], args := [d1, d2] }
  | _ => none }
def scopeTwiceRow : OpenClaim := { program := "ytbjddomocggjmaa", sum := "4ddf32053fc380a6d2f735ea22c9ffde1b236d85cb00186d0b554e1dfb537596", func := "spandrel/spandrellaw10.ScopeTwice", spec := "scopeTwice", unfollowed := true, recurses := true, loops := true, apart := false }
def ScopeTwiceSaid : Prop := scopeTwiceRow.holds Try.pinned (OpenSpec.ofChange scopeTwiceSpec)

/-- ITS FALSE NEIGHBOUR: 'it returns false'. Refute it at one input. -/
def scopeTwiceWrong : ChangeSpec := { name := "scopeTwice", fn := fun _ => fun
  | [d1, d2] => { results := [.lit (.bool false)], args := [d1, d2] }
  | _ => none }
def ScopeTwiceWrongFalsely : Prop := scopeTwiceRow.holds Try.pinned (OpenSpec.ofChange scopeTwiceWrong)

/- THE SECOND FORM. 'bulk': how many values and letters a reading holds, each counted each time it is reached (what is shared counts as often as it is met; a slice's spare places count too). A statement '..UptoSaid' is the law's where the arguments, and the package variables that the reading takes, are together of bulk at most 1048576: NARROWER than '..Said'. Prove '..Said' where nothing that the law and all that it calls make is longer than what came in: it says more and counts as full. Else prove '..UptoSaid'. A law counts once. -/
mutual
def uptoBulk {H : Type} : DataW H → Nat
  | .lit (.string bytes) => bytes.length + 1
  | .lit _ => 1
  | .nil => 1
  | .ptr d => uptoBulk d + 1
  | .slice elems spare => uptoBulkAll elems + uptoBulkAll spare + 1
  | .agg parts => uptoBulkAll parts + 1
  | .iface _ d => uptoBulk d + 1
  | .map entries => uptoBulkEntries entries + 1
  | .held _ => 1
def uptoBulkAll {H : Type} : List (DataW H) → Nat
  | [] => 0
  | d :: r => uptoBulk d + uptoBulkAll r
def uptoBulkEntries {H : Type} : List (Lit × DataW H) → Nat
  | [] => 0
  | x :: r => uptoBulkEntry x + uptoBulkEntries r
def uptoBulkEntry {H : Type} : Lit × DataW H → Nat
  | (.string bytes, d) => bytes.length + uptoBulk d + 1
  | (_, d) => uptoBulk d + 1
 end
def uptoSmall : (H : Type) → List (DataW H) → Bool := fun _ ds => decide (uptoBulkAll ds ≤ 1048576)
def OpenSpec.upto (s : _root_.Go.ChangeSpec) : _root_.Go.OpenSpec := { _root_.Go.OpenSpec.ofChange s with cond := some uptoSmall }

/-- 'spandrellaw20.FragcheckChecks', WHERE WHAT IT READS IS OF BULK AT MOST 1048576: true; the input reads as it did. -/
def fragcheckChecksUptoRow : OpenClaim := { program := "ytbjddomocggjmaa", sum := "4ddf32053fc380a6d2f735ea22c9ffde1b236d85cb00186d0b554e1dfb537596", func := "spandrel/spandrellaw20.FragcheckChecks", spec := "fragcheckChecks", inPlace := ["internal/bytealg.IndexByteString", "internal/bytealg.IndexString"], unfollowed := true, recurses := true, named := ["internal/bytealg.MaxLen"], loops := true, apart := false, narrowed := true }
def FragcheckChecksUptoSaid : Prop := fragcheckChecksUptoRow.holds Try.pinned (OpenSpec.upto fragcheckChecksSpec)

/-- 'spandrellaw20.FragcheckMethods', WHERE WHAT IT READS IS OF BULK AT MOST 1048576: true; the input reads as it did. -/
def fragcheckMethodsUptoRow : OpenClaim := { program := "ytbjddomocggjmaa", sum := "4ddf32053fc380a6d2f735ea22c9ffde1b236d85cb00186d0b554e1dfb537596", func := "spandrel/spandrellaw20.FragcheckMethods", spec := "fragcheckMethods", inPlace := ["internal/bytealg.IndexByteString", "internal/bytealg.IndexString"], unfollowed := true, recurses := true, named := ["internal/bytealg.MaxLen"], apart := false, narrowed := true }
def FragcheckMethodsUptoSaid : Prop := fragcheckMethodsUptoRow.holds Try.pinned (OpenSpec.upto fragcheckMethodsSpec)

/-- 'spandrellaw20.FragcheckJoins', WHERE WHAT IT READS IS OF BULK AT MOST 1048576: true; the input reads as it did. -/
def fragcheckJoinsUptoRow : OpenClaim := { program := "ytbjddomocggjmaa", sum := "4ddf32053fc380a6d2f735ea22c9ffde1b236d85cb00186d0b554e1dfb537596", func := "spandrel/spandrellaw20.FragcheckJoins", spec := "fragcheckJoins", inPlace := ["internal/bytealg.IndexByteString", "internal/bytealg.IndexString"], unfollowed := true, recurses := true, named := ["internal/bytealg.MaxLen"], loops := true, apart := false, narrowed := true }
def FragcheckJoinsUptoSaid : Prop := fragcheckJoinsUptoRow.holds Try.pinned (OpenSpec.upto fragcheckJoinsSpec)

/-- 'spandrellaw20.FragcheckDeep', WHERE WHAT IT READS IS OF BULK AT MOST 1048576: true; the input reads as it did. -/
def fragcheckDeepUptoRow : OpenClaim := { program := "ytbjddomocggjmaa", sum := "4ddf32053fc380a6d2f735ea22c9ffde1b236d85cb00186d0b554e1dfb537596", func := "spandrel/spandrellaw20.FragcheckDeep", spec := "fragcheckDeep", inPlace := ["internal/bytealg.IndexByteString", "internal/bytealg.IndexString"], unfollowed := true, recurses := true, named := ["internal/bytealg.MaxLen"], loops := true, apart := false, narrowed := true }
def FragcheckDeepUptoSaid : Prop := fragcheckDeepUptoRow.holds Try.pinned (OpenSpec.upto fragcheckDeepSpec)

/-- 'spandrellaw10.ScopeClosed', WHERE WHAT IT READS IS OF BULK AT MOST 1048576: true; the input reads as it did. -/
def scopeClosedUptoRow : OpenClaim := { program := "ytbjddomocggjmaa", sum := "4ddf32053fc380a6d2f735ea22c9ffde1b236d85cb00186d0b554e1dfb537596", func := "spandrel/spandrellaw10.ScopeClosed", spec := "scopeClosed", unfollowed := true, recurses := true, loops := true, apart := false, narrowed := true }
def ScopeClosedUptoSaid : Prop := scopeClosedUptoRow.holds Try.pinned (OpenSpec.upto scopeClosedSpec)

/-- 'spandrellaw10.ScopeImports', WHERE WHAT IT READS IS OF BULK AT MOST 1048576: true; the input reads as it did. -/
def scopeImportsUptoRow : OpenClaim := { program := "ytbjddomocggjmaa", sum := "4ddf32053fc380a6d2f735ea22c9ffde1b236d85cb00186d0b554e1dfb537596", func := "spandrel/spandrellaw10.ScopeImports", spec := "scopeImports", unfollowed := true, recurses := true, loops := true, apart := false, narrowed := true }
def ScopeImportsUptoSaid : Prop := scopeImportsUptoRow.holds Try.pinned (OpenSpec.upto scopeImportsSpec)

/-- 'spandrellaw10.ScopeTwice', WHERE WHAT IT READS IS OF BULK AT MOST 1048576: true; the input reads as it did. -/
def scopeTwiceUptoRow : OpenClaim := { program := "ytbjddomocggjmaa", sum := "4ddf32053fc380a6d2f735ea22c9ffde1b236d85cb00186d0b554e1dfb537596", func := "spandrel/spandrellaw10.ScopeTwice", spec := "scopeTwice", unfollowed := true, recurses := true, loops := true, apart := false, narrowed := true }
def ScopeTwiceUptoSaid : Prop := scopeTwiceUptoRow.holds Try.pinned (OpenSpec.upto scopeTwiceSpec)

end Rows
end Go.Proofs.Ytbjddomocggjmaa
