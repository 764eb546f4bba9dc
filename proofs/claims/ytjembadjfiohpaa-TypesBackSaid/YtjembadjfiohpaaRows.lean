/-
  No cell of these rows narrows 'for every input' (looked for: loops, veiled, ifaces, maps, wideKeys, modest, calm, conditions, laid).
  DERIVED. THE GIVEN ROWS OF THIS SEAT. 8 by the template 'for every input the law returns true; each argument reads behind the call as it read before'; 0 by the template 'total and deterministic' (their statements: YtjembadjfiohpaaTotals.lean).
  GIVEN WITH THE SEED: the statements are not yours to turn. If you find one false, say at which input.
  Laid BY PROGRAM, IN A SANDBOX (cutbox-rows.mjs): the forced cells as the released guide's own fill.sh prints them over the translation 41b306919b22262b… (all of the seat's roots in one cut). By AI agents, Wed Nov 11 2026. No macro, syntax, notation, axiom, sorry.
-/
import Derived.Test.YtjembadjfiohpaaChecked
import GoSem.Claim
import GoSem.ClaimJoined
import GoSem.ClaimMapViews
import Derived.JoinedTies
import Derived.KernelRfl
namespace Go.Proofs.Ytjembadjfiohpaa
/- THE CELL 'sum', in the pinned program and in every row, IS THE sha256 OF THE DUMP (.gsa) THAT YtjembadjfiohpaaProg.lean LOADS. Nothing in Lean hashes anything: it is a label: what it is worth is what the hold of that sum in a sandbox is worth. -/
noncomputable def Try.pinned : Pinned := { name := "ytjembadjfiohpaa", sum := "41b306919b22262b816fcd4bae76b5fc030eeca17feda98f026fdbed2e0d73ad", checked := Try.checked }
namespace Rows
def none {H : Type} : Left H := { results := [], args := [] }

/-- 'turnbucklelaw05.TypesChecks': WHATEVER THE INPUT: true; the input reads as it did. -/
def typesChecksSpec : ChangeSpec := { name := "typesChecks", fn := fun _ => fun
  | [d] => { results := [.lit (.bool true)], args := [d] }
  | _ => none }
def typesChecksRow : OpenClaim := { program := "ytjembadjfiohpaa", sum := "41b306919b22262b816fcd4bae76b5fc030eeca17feda98f026fdbed2e0d73ad", func := "turnbuckle/turnbucklelaw05.TypesChecks", spec := "typesChecks", unfollowed := true, recurses := true, apart := false }
def TypesChecksSaid : Prop := typesChecksRow.holds Try.pinned (OpenSpec.ofChange typesChecksSpec)

/-- ITS FALSE NEIGHBOUR: 'it returns false'. Refute it at one input. -/
def typesChecksWrong : ChangeSpec := { name := "typesChecks", fn := fun _ => fun
  | [d] => { results := [.lit (.bool false)], args := [d] }
  | _ => none }
def TypesChecksWrongFalsely : Prop := typesChecksRow.holds Try.pinned (OpenSpec.ofChange typesChecksWrong)

/-- 'turnbucklelaw05.TypesLayouts': WHATEVER THE INPUT: true; the input reads as it did. -/
def typesLayoutsSpec : ChangeSpec := { name := "typesLayouts", fn := fun _ => fun
  | [d] => { results := [.lit (.bool true)], args := [d] }
  | _ => none }
def typesLayoutsRow : OpenClaim := { program := "ytjembadjfiohpaa", sum := "41b306919b22262b816fcd4bae76b5fc030eeca17feda98f026fdbed2e0d73ad", func := "turnbuckle/turnbucklelaw05.TypesLayouts", spec := "typesLayouts", unfollowed := true, recurses := true, apart := false }
def TypesLayoutsSaid : Prop := typesLayoutsRow.holds Try.pinned (OpenSpec.ofChange typesLayoutsSpec)

/-- ITS FALSE NEIGHBOUR: 'it returns false'. Refute it at one input. -/
def typesLayoutsWrong : ChangeSpec := { name := "typesLayouts", fn := fun _ => fun
  | [d] => { results := [.lit (.bool false)], args := [d] }
  | _ => none }
def TypesLayoutsWrongFalsely : Prop := typesLayoutsRow.holds Try.pinned (OpenSpec.ofChange typesLayoutsWrong)

/-- 'turnbucklelaw05.TypesApart': WHATEVER THE INPUT: true; the input reads as it did. -/
def typesApartSpec : ChangeSpec := { name := "typesApart", fn := fun _ => fun
  | [d] => { results := [.lit (.bool true)], args := [d] }
  | _ => none }
def typesApartRow : OpenClaim := { program := "ytjembadjfiohpaa", sum := "41b306919b22262b816fcd4bae76b5fc030eeca17feda98f026fdbed2e0d73ad", func := "turnbuckle/turnbucklelaw05.TypesApart", spec := "typesApart", unfollowed := true, recurses := true, apart := false }
def TypesApartSaid : Prop := typesApartRow.holds Try.pinned (OpenSpec.ofChange typesApartSpec)

/-- ITS FALSE NEIGHBOUR: 'it returns false'. Refute it at one input. -/
def typesApartWrong : ChangeSpec := { name := "typesApart", fn := fun _ => fun
  | [d] => { results := [.lit (.bool false)], args := [d] }
  | _ => none }
def TypesApartWrongFalsely : Prop := typesApartRow.holds Try.pinned (OpenSpec.ofChange typesApartWrong)

/-- 'turnbucklelaw05.TypesOrder': WHATEVER THE INPUT: true; the input reads as it did. -/
def typesOrderSpec : ChangeSpec := { name := "typesOrder", fn := fun _ => fun
  | [d1, d2] => { results := [.lit (.bool true)], args := [d1, d2] }
  | _ => none }
def typesOrderRow : OpenClaim := { program := "ytjembadjfiohpaa", sum := "41b306919b22262b816fcd4bae76b5fc030eeca17feda98f026fdbed2e0d73ad", func := "turnbuckle/turnbucklelaw05.TypesOrder", spec := "typesOrder", unfollowed := true, recurses := true, apart := false }
def TypesOrderSaid : Prop := typesOrderRow.holds Try.pinned (OpenSpec.ofChange typesOrderSpec)

/-- ITS FALSE NEIGHBOUR: 'it returns false'. Refute it at one input. -/
def typesOrderWrong : ChangeSpec := { name := "typesOrder", fn := fun _ => fun
  | [d1, d2] => { results := [.lit (.bool false)], args := [d1, d2] }
  | _ => none }
def TypesOrderWrongFalsely : Prop := typesOrderRow.holds Try.pinned (OpenSpec.ofChange typesOrderWrong)

/-- 'turnbucklelaw05.TypesScalars': WHATEVER THE INPUT: true; the input reads as it did. -/
def typesScalarsSpec : ChangeSpec := { name := "typesScalars", fn := fun _ => fun
  | [d1, d2, d3] => { results := [.lit (.bool true)], args := [d1, d2, d3] }
  | _ => none }
def typesScalarsRow : OpenClaim := { program := "ytjembadjfiohpaa", sum := "41b306919b22262b816fcd4bae76b5fc030eeca17feda98f026fdbed2e0d73ad", func := "turnbuckle/turnbucklelaw05.TypesScalars", spec := "typesScalars", unfollowed := true, recurses := true, apart := false }
def TypesScalarsSaid : Prop := typesScalarsRow.holds Try.pinned (OpenSpec.ofChange typesScalarsSpec)

/-- ITS FALSE NEIGHBOUR: 'it returns false'. Refute it at one input. -/
def typesScalarsWrong : ChangeSpec := { name := "typesScalars", fn := fun _ => fun
  | [d1, d2, d3] => { results := [.lit (.bool false)], args := [d1, d2, d3] }
  | _ => none }
def TypesScalarsWrongFalsely : Prop := typesScalarsRow.holds Try.pinned (OpenSpec.ofChange typesScalarsWrong)

/-- 'turnbucklelaw05.TypesBytes': WHATEVER THE INPUT: true; the input reads as it did. -/
def typesBytesSpec : ChangeSpec := { name := "typesBytes", fn := fun _ => fun
  | [d] => { results := [.lit (.bool true)], args := [d] }
  | _ => none }
def typesBytesRow : OpenClaim := { program := "ytjembadjfiohpaa", sum := "41b306919b22262b816fcd4bae76b5fc030eeca17feda98f026fdbed2e0d73ad", func := "turnbuckle/turnbucklelaw05.TypesBytes", spec := "typesBytes", unfollowed := true, recurses := true, apart := false }
def TypesBytesSaid : Prop := typesBytesRow.holds Try.pinned (OpenSpec.ofChange typesBytesSpec)

/-- ITS FALSE NEIGHBOUR: 'it returns false'. Refute it at one input. -/
def typesBytesWrong : ChangeSpec := { name := "typesBytes", fn := fun _ => fun
  | [d] => { results := [.lit (.bool false)], args := [d] }
  | _ => none }
def TypesBytesWrongFalsely : Prop := typesBytesRow.holds Try.pinned (OpenSpec.ofChange typesBytesWrong)

/-- 'turnbucklelaw05.TypesParses': WHATEVER THE INPUT: true; the input reads as it did. -/
def typesParsesSpec : ChangeSpec := { name := "typesParses", fn := fun _ => fun
  | [d] => { results := [.lit (.bool true)], args := [d] }
  | _ => none }
def typesParsesRow : OpenClaim := { program := "ytjembadjfiohpaa", sum := "41b306919b22262b816fcd4bae76b5fc030eeca17feda98f026fdbed2e0d73ad", func := "turnbuckle/turnbucklelaw05.TypesParses", spec := "typesParses", unfollowed := true, recurses := true, apart := false }
def TypesParsesSaid : Prop := typesParsesRow.holds Try.pinned (OpenSpec.ofChange typesParsesSpec)

/-- ITS FALSE NEIGHBOUR: 'it returns false'. Refute it at one input. -/
def typesParsesWrong : ChangeSpec := { name := "typesParses", fn := fun _ => fun
  | [d] => { results := [.lit (.bool false)], args := [d] }
  | _ => none }
def TypesParsesWrongFalsely : Prop := typesParsesRow.holds Try.pinned (OpenSpec.ofChange typesParsesWrong)

/-- 'turnbucklelaw05.TypesBack': WHATEVER THE INPUT: true; the input reads as it did. -/
def typesBackSpec : ChangeSpec := { name := "typesBack", fn := fun _ => fun
  | [d1, d2, d3] => { results := [.lit (.bool true)], args := [d1, d2, d3] }
  | _ => none }
def typesBackRow : OpenClaim := { program := "ytjembadjfiohpaa", sum := "41b306919b22262b816fcd4bae76b5fc030eeca17feda98f026fdbed2e0d73ad", func := "turnbuckle/turnbucklelaw05.TypesBack", spec := "typesBack", unfollowed := true, recurses := true, apart := false }
def TypesBackSaid : Prop := typesBackRow.holds Try.pinned (OpenSpec.ofChange typesBackSpec)

/-- ITS FALSE NEIGHBOUR: 'it returns false'. Refute it at one input. -/
def typesBackWrong : ChangeSpec := { name := "typesBack", fn := fun _ => fun
  | [d1, d2, d3] => { results := [.lit (.bool false)], args := [d1, d2, d3] }
  | _ => none }
def TypesBackWrongFalsely : Prop := typesBackRow.holds Try.pinned (OpenSpec.ofChange typesBackWrong)

/- THE SECOND FORM. 'bulk': how many values and letters a reading holds, each counted each time it is reached (what is shared counts as often as it is met; a slice's spare places count too). A statement '..UptoSaid' is the law's where the arguments, and the package variables that the reading takes, are together of bulk at most 1048576: NARROWER than '..Said'. Prove '..Said' where nothing that the law and all that it calls make is longer than what came in: it says more and counts as full. Else prove '..UptoSaid'. A law counts once. -/
mutual
def uptoBulk {H : Type} : DataW H → Nat
  | .lit (.string bytes) => bytes.length + 1
  | .lit _ => 1
  | .nil => 1
  | .ptr d => uptoBulk d + 1
  | .slice elems spare => uptoBulkAll elems + uptoBulkAll spare + 1
  | .agg parts => uptoBulkAll parts + 1
  | .iface _ d => uptoBulk d + 1
  | .map entries => uptoBulkEntries entries + 1
  | .held _ => 1
def uptoBulkAll {H : Type} : List (DataW H) → Nat
  | [] => 0
  | d :: r => uptoBulk d + uptoBulkAll r
def uptoBulkEntries {H : Type} : List (Lit × DataW H) → Nat
  | [] => 0
  | x :: r => uptoBulkEntry x + uptoBulkEntries r
def uptoBulkEntry {H : Type} : Lit × DataW H → Nat
  | (.string bytes, d) => bytes.length + uptoBulk d + 1
  | (_, d) => uptoBulk d + 1
 end
def uptoSmall : (H : Type) → List (DataW H) → Bool := fun _ ds => decide (uptoBulkAll ds ≤ 1048576)
def OpenSpec.upto (s : _root_.Go.ChangeSpec) : _root_.Go.OpenSpec := { _root_.Go.OpenSpec.ofChange s with cond := some uptoSmall }

/-- 'turnbucklelaw05.TypesChecks', WHERE WHAT IT READS IS OF BULK AT MOST 1048576: true; the input reads as it did. -/
def typesChecksUptoRow : OpenClaim := { program := "ytjembadjfiohpaa", sum := "41b306919b22262b816fcd4bae76b5fc030eeca17feda98f026fdbed2e0d73ad", func := "turnbuckle/turnbucklelaw05.TypesChecks", spec := "typesChecks", unfollowed := true, recurses := true, apart := false, narrowed := true }
def TypesChecksUptoSaid : Prop := typesChecksUptoRow.holds Try.pinned (OpenSpec.upto typesChecksSpec)

/-- 'turnbucklelaw05.TypesLayouts', WHERE WHAT IT READS IS OF BULK AT MOST 1048576: true; the input reads as it did. -/
def typesLayoutsUptoRow : OpenClaim := { program := "ytjembadjfiohpaa", sum := "41b306919b22262b816fcd4bae76b5fc030eeca17feda98f026fdbed2e0d73ad", func := "turnbuckle/turnbucklelaw05.TypesLayouts", spec := "typesLayouts", unfollowed := true, recurses := true, apart := false, narrowed := true }
def TypesLayoutsUptoSaid : Prop := typesLayoutsUptoRow.holds Try.pinned (OpenSpec.upto typesLayoutsSpec)

/-- 'turnbucklelaw05.TypesApart', WHERE WHAT IT READS IS OF BULK AT MOST 1048576: true; the input reads as it did. -/
def typesApartUptoRow : OpenClaim := { program := "ytjembadjfiohpaa", sum := "41b306919b22262b816fcd4bae76b5fc030eeca17feda98f026fdbed2e0d73ad", func := "turnbuckle/turnbucklelaw05.TypesApart", spec := "typesApart", unfollowed := true, recurses := true, apart := false, narrowed := true }
def TypesApartUptoSaid : Prop := typesApartUptoRow.holds Try.pinned (OpenSpec.upto typesApartSpec)

/-- 'turnbucklelaw05.TypesOrder', WHERE WHAT IT READS IS OF BULK AT MOST 1048576: true; the input reads as it did. -/
def typesOrderUptoRow : OpenClaim := { program := "ytjembadjfiohpaa", sum := "41b306919b22262b816fcd4bae76b5fc030eeca17feda98f026fdbed2e0d73ad", func := "turnbuckle/turnbucklelaw05.TypesOrder", spec := "typesOrder", unfollowed := true, recurses := true, apart := false, narrowed := true }
def TypesOrderUptoSaid : Prop := typesOrderUptoRow.holds Try.pinned (OpenSpec.upto typesOrderSpec)

/-- 'turnbucklelaw05.TypesScalars', WHERE WHAT IT READS IS OF BULK AT MOST 1048576: true; the input reads as it did. -/
def typesScalarsUptoRow : OpenClaim := { program := "ytjembadjfiohpaa", sum := "41b306919b22262b816fcd4bae76b5fc030eeca17feda98f026fdbed2e0d73ad", func := "turnbuckle/turnbucklelaw05.TypesScalars", spec := "typesScalars", unfollowed := true, recurses := true, apart := false, narrowed := true }
def TypesScalarsUptoSaid : Prop := typesScalarsUptoRow.holds Try.pinned (OpenSpec.upto typesScalarsSpec)

/-- 'turnbucklelaw05.TypesBytes', WHERE WHAT IT READS IS OF BULK AT MOST 1048576: true; the input reads as it did. -/
def typesBytesUptoRow : OpenClaim := { program := "ytjembadjfiohpaa", sum := "41b306919b22262b816fcd4bae76b5fc030eeca17feda98f026fdbed2e0d73ad", func := "turnbuckle/turnbucklelaw05.TypesBytes", spec := "typesBytes", unfollowed := true, recurses := true, apart := false, narrowed := true }
def TypesBytesUptoSaid : Prop := typesBytesUptoRow.holds Try.pinned (OpenSpec.upto typesBytesSpec)

/-- 'turnbucklelaw05.TypesParses', WHERE WHAT IT READS IS OF BULK AT MOST 1048576: true; the input reads as it did. -/
def typesParsesUptoRow : OpenClaim := { program := "ytjembadjfiohpaa", sum := "41b306919b22262b816fcd4bae76b5fc030eeca17feda98f026fdbed2e0d73ad", func := "turnbuckle/turnbucklelaw05.TypesParses", spec := "typesParses", unfollowed := true, recurses := true, apart := false, narrowed := true }
def TypesParsesUptoSaid : Prop := typesParsesUptoRow.holds Try.pinned (OpenSpec.upto typesParsesSpec)

/-- 'turnbucklelaw05.TypesBack', WHERE WHAT IT READS IS OF BULK AT MOST 1048576: true; the input reads as it did. -/
def typesBackUptoRow : OpenClaim := { program := "ytjembadjfiohpaa", sum := "41b306919b22262b816fcd4bae76b5fc030eeca17feda98f026fdbed2e0d73ad", func := "turnbuckle/turnbucklelaw05.TypesBack", spec := "typesBack", unfollowed := true, recurses := true, apart := false, narrowed := true }
def TypesBackUptoSaid : Prop := typesBackUptoRow.holds Try.pinned (OpenSpec.upto typesBackSpec)

end Rows
end Go.Proofs.Ytjembadjfiohpaa
