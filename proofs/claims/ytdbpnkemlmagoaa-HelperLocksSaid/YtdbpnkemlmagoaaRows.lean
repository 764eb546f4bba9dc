/-
  No cell of these rows narrows 'for every input' (looked for: loops, veiled, ifaces, maps, wideKeys, modest, calm, conditions, laid).
  DERIVED. THE GIVEN ROWS OF THIS SEAT. 4 by the template 'for every input the law returns true; each argument reads behind the call as it read before'; 0 by the template 'total and deterministic' (their statements: YtdbpnkemlmagoaaTotals.lean).
  GIVEN WITH THE SEED: the statements are not yours to turn. If you find one false, say at which input.
  Laid BY PROGRAM, IN A SANDBOX (cutbox-rows.mjs): the forced cells as the released guide's own fill.sh prints them over the translation 44537cfa1d837f01… (all of the seat's roots in one cut). By AI agents, Wed Nov 11 2026. No macro, syntax, notation, axiom, sorry.
-/
import Derived.Test.YtdbpnkemlmagoaaChecked
import GoSem.Claim
import GoSem.ClaimJoined
import GoSem.ClaimMapViews
import Derived.JoinedTies
import Derived.KernelRfl
namespace Go.Proofs.Ytdbpnkemlmagoaa
/- THE CELL 'sum', in the pinned program and in every row, IS THE sha256 OF THE DUMP (.gsa) THAT YtdbpnkemlmagoaaProg.lean LOADS. Nothing in Lean hashes anything: it is a label: what it is worth is what the hold of that sum in a sandbox is worth. -/
noncomputable def Try.pinned : Pinned := { name := "ytdbpnkemlmagoaa", sum := "44537cfa1d837f015e8a62c60bf60a990a30d6e7a633d0b2837a49ab811d8568", checked := Try.checked }
namespace Rows
def none {H : Type} : Left H := { results := [], args := [] }

/-- 'turnbucklelaw18.HelperOthers': WHATEVER THE INPUT: true; the input reads as it did. -/
def helperOthersSpec : ChangeSpec := { name := "helperOthers", fn := fun _ => fun
  | [d1, d2, d3, d4, d5, d6] => { results := [.lit (.bool true)], args := [d1, d2, d3, d4, d5, d6] }
  | _ => none }
def helperOthersRow : OpenClaim := { program := "ytdbpnkemlmagoaa", sum := "44537cfa1d837f015e8a62c60bf60a990a30d6e7a633d0b2837a49ab811d8568", func := "turnbuckle/turnbucklelaw18.HelperOthers", spec := "helperOthers", unfollowed := true, recurses := true, apart := false }
def HelperOthersSaid : Prop := helperOthersRow.holds Try.pinned (OpenSpec.ofChange helperOthersSpec)

/-- ITS FALSE NEIGHBOUR: 'it returns false'. Refute it at one input. -/
def helperOthersWrong : ChangeSpec := { name := "helperOthers", fn := fun _ => fun
  | [d1, d2, d3, d4, d5, d6] => { results := [.lit (.bool false)], args := [d1, d2, d3, d4, d5, d6] }
  | _ => none }
def HelperOthersWrongFalsely : Prop := helperOthersRow.holds Try.pinned (OpenSpec.ofChange helperOthersWrong)

/-- 'turnbucklelaw18.HelperCount': WHATEVER THE INPUT: true; the input reads as it did. -/
def helperCountSpec : ChangeSpec := { name := "helperCount", fn := fun _ => fun
  | [d1, d2, d3, d4, d5] => { results := [.lit (.bool true)], args := [d1, d2, d3, d4, d5] }
  | _ => none }
def helperCountRow : OpenClaim := { program := "ytdbpnkemlmagoaa", sum := "44537cfa1d837f015e8a62c60bf60a990a30d6e7a633d0b2837a49ab811d8568", func := "turnbuckle/turnbucklelaw18.HelperCount", spec := "helperCount", unfollowed := true, recurses := true, apart := false }
def HelperCountSaid : Prop := helperCountRow.holds Try.pinned (OpenSpec.ofChange helperCountSpec)

/-- ITS FALSE NEIGHBOUR: 'it returns false'. Refute it at one input. -/
def helperCountWrong : ChangeSpec := { name := "helperCount", fn := fun _ => fun
  | [d1, d2, d3, d4, d5] => { results := [.lit (.bool false)], args := [d1, d2, d3, d4, d5] }
  | _ => none }
def HelperCountWrongFalsely : Prop := helperCountRow.holds Try.pinned (OpenSpec.ofChange helperCountWrong)

/-- 'turnbucklelaw18.HelperLocks': WHATEVER THE INPUT: true; the input reads as it did. -/
def helperLocksSpec : ChangeSpec := { name := "helperLocks", fn := fun _ => fun
  | [d1, d2, d3, d4] => { results := [.lit (.bool true)], args := [d1, d2, d3, d4] }
  | _ => none }
def helperLocksRow : OpenClaim := { program := "ytdbpnkemlmagoaa", sum := "44537cfa1d837f015e8a62c60bf60a990a30d6e7a633d0b2837a49ab811d8568", func := "turnbuckle/turnbucklelaw18.HelperLocks", spec := "helperLocks", unfollowed := true, recurses := true, apart := false }
def HelperLocksSaid : Prop := helperLocksRow.holds Try.pinned (OpenSpec.ofChange helperLocksSpec)

/-- ITS FALSE NEIGHBOUR: 'it returns false'. Refute it at one input. -/
def helperLocksWrong : ChangeSpec := { name := "helperLocks", fn := fun _ => fun
  | [d1, d2, d3, d4] => { results := [.lit (.bool false)], args := [d1, d2, d3, d4] }
  | _ => none }
def HelperLocksWrongFalsely : Prop := helperLocksRow.holds Try.pinned (OpenSpec.ofChange helperLocksWrong)

/-- 'turnbucklelaw18.HelperFresh': WHATEVER THE INPUT: true; the input reads as it did. -/
def helperFreshSpec : ChangeSpec := { name := "helperFresh", fn := fun _ => fun
  | [d1, d2, d3, d4, d5] => { results := [.lit (.bool true)], args := [d1, d2, d3, d4, d5] }
  | _ => none }
def helperFreshRow : OpenClaim := { program := "ytdbpnkemlmagoaa", sum := "44537cfa1d837f015e8a62c60bf60a990a30d6e7a633d0b2837a49ab811d8568", func := "turnbuckle/turnbucklelaw18.HelperFresh", spec := "helperFresh", unfollowed := true, recurses := true, apart := false }
def HelperFreshSaid : Prop := helperFreshRow.holds Try.pinned (OpenSpec.ofChange helperFreshSpec)

/-- ITS FALSE NEIGHBOUR: 'it returns false'. Refute it at one input. -/
def helperFreshWrong : ChangeSpec := { name := "helperFresh", fn := fun _ => fun
  | [d1, d2, d3, d4, d5] => { results := [.lit (.bool false)], args := [d1, d2, d3, d4, d5] }
  | _ => none }
def HelperFreshWrongFalsely : Prop := helperFreshRow.holds Try.pinned (OpenSpec.ofChange helperFreshWrong)

/- THE SECOND FORM. 'bulk': how many values and letters a reading holds, each counted each time it is reached (what is shared counts as often as it is met; a slice's spare places count too). A statement '..UptoSaid' is the law's where the arguments, and the package variables that the reading takes, are together of bulk at most 1048576: NARROWER than '..Said'. Prove '..Said' where nothing that the law and all that it calls make is longer than what came in: it says more and counts as full. Else prove '..UptoSaid'. A law counts once. -/
mutual
def uptoBulk {H : Type} : DataW H → Nat
  | .lit (.string bytes) => bytes.length + 1
  | .lit _ => 1
  | .nil => 1
  | .ptr d => uptoBulk d + 1
  | .slice elems spare => uptoBulkAll elems + uptoBulkAll spare + 1
  | .agg parts => uptoBulkAll parts + 1
  | .iface _ d => uptoBulk d + 1
  | .map entries => uptoBulkEntries entries + 1
  | .held _ => 1
def uptoBulkAll {H : Type} : List (DataW H) → Nat
  | [] => 0
  | d :: r => uptoBulk d + uptoBulkAll r
def uptoBulkEntries {H : Type} : List (Lit × DataW H) → Nat
  | [] => 0
  | x :: r => uptoBulkEntry x + uptoBulkEntries r
def uptoBulkEntry {H : Type} : Lit × DataW H → Nat
  | (.string bytes, d) => bytes.length + uptoBulk d + 1
  | (_, d) => uptoBulk d + 1
 end
def uptoSmall : (H : Type) → List (DataW H) → Bool := fun _ ds => decide (uptoBulkAll ds ≤ 1048576)
def OpenSpec.upto (s : _root_.Go.ChangeSpec) : _root_.Go.OpenSpec := { _root_.Go.OpenSpec.ofChange s with cond := some uptoSmall }

/-- 'turnbucklelaw18.HelperOthers', WHERE WHAT IT READS IS OF BULK AT MOST 1048576: true; the input reads as it did. -/
def helperOthersUptoRow : OpenClaim := { program := "ytdbpnkemlmagoaa", sum := "44537cfa1d837f015e8a62c60bf60a990a30d6e7a633d0b2837a49ab811d8568", func := "turnbuckle/turnbucklelaw18.HelperOthers", spec := "helperOthers", unfollowed := true, recurses := true, apart := false, narrowed := true }
def HelperOthersUptoSaid : Prop := helperOthersUptoRow.holds Try.pinned (OpenSpec.upto helperOthersSpec)

/-- 'turnbucklelaw18.HelperCount', WHERE WHAT IT READS IS OF BULK AT MOST 1048576: true; the input reads as it did. -/
def helperCountUptoRow : OpenClaim := { program := "ytdbpnkemlmagoaa", sum := "44537cfa1d837f015e8a62c60bf60a990a30d6e7a633d0b2837a49ab811d8568", func := "turnbuckle/turnbucklelaw18.HelperCount", spec := "helperCount", unfollowed := true, recurses := true, apart := false, narrowed := true }
def HelperCountUptoSaid : Prop := helperCountUptoRow.holds Try.pinned (OpenSpec.upto helperCountSpec)

/-- 'turnbucklelaw18.HelperLocks', WHERE WHAT IT READS IS OF BULK AT MOST 1048576: true; the input reads as it did. -/
def helperLocksUptoRow : OpenClaim := { program := "ytdbpnkemlmagoaa", sum := "44537cfa1d837f015e8a62c60bf60a990a30d6e7a633d0b2837a49ab811d8568", func := "turnbuckle/turnbucklelaw18.HelperLocks", spec := "helperLocks", unfollowed := true, recurses := true, apart := false, narrowed := true }
def HelperLocksUptoSaid : Prop := helperLocksUptoRow.holds Try.pinned (OpenSpec.upto helperLocksSpec)

/-- 'turnbucklelaw18.HelperFresh', WHERE WHAT IT READS IS OF BULK AT MOST 1048576: true; the input reads as it did. -/
def helperFreshUptoRow : OpenClaim := { program := "ytdbpnkemlmagoaa", sum := "44537cfa1d837f015e8a62c60bf60a990a30d6e7a633d0b2837a49ab811d8568", func := "turnbuckle/turnbucklelaw18.HelperFresh", spec := "helperFresh", unfollowed := true, recurses := true, apart := false, narrowed := true }
def HelperFreshUptoSaid : Prop := helperFreshUptoRow.holds Try.pinned (OpenSpec.upto helperFreshSpec)

end Rows
end Go.Proofs.Ytdbpnkemlmagoaa
