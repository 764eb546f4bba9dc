/-
  No cell of these rows narrows 'for every input' (looked for: loops, veiled, ifaces, maps, wideKeys, modest, calm, conditions, laid).
  DERIVED. THE GIVEN ROWS OF THIS SEAT. 7 by the template 'for every input the law returns true; each argument reads behind the call as it read before'; 0 by the template 'total and deterministic' (their statements: YtmghjpdchngedaaTotals.lean).
  GIVEN WITH THE SEED: the statements are not yours to turn. If you find one false, say at which input.
  Laid BY PROGRAM, IN A SANDBOX (cutbox-rows.mjs): the forced cells as the released guide's own fill.sh prints them over the translation d1f46f62f44266af… (all of the seat's roots in one cut). By AI agents, Wed Nov 11 2026. No macro, syntax, notation, axiom, sorry.
-/
import Derived.Test.YtmghjpdchngedaaChecked
import GoSem.Claim
import GoSem.ClaimJoined
import GoSem.ClaimMapViews
import Derived.JoinedTies
import Derived.KernelRfl
namespace Go.Proofs.Ytmghjpdchngedaa
/- THE CELL 'sum', in the pinned program and in every row, IS THE sha256 OF THE DUMP (.gsa) THAT YtmghjpdchngedaaProg.lean LOADS. Nothing in Lean hashes anything: it is a label: what it is worth is what the hold of that sum in a sandbox is worth. -/
noncomputable def Try.pinned : Pinned := { name := "ytmghjpdchngedaa", sum := "d1f46f62f44266af60ed08c31710025a8eb8e54c2d62ce9f99f16e37b1564109", checked := Try.checked }
namespace Rows
def none {H : Type} : Left H := { results := [], args := [] }

/-- 'turnbucklelaw04.WireNumbers': WHATEVER THE INPUT: true; the input reads as it did. -/
def wireNumbersSpec : ChangeSpec := { name := "wireNumbers", fn := fun _ => fun
  | [d1, d2] => { results := [.lit (.bool true)], args := [d1, d2] }
  | _ => none }
def wireNumbersRow : OpenClaim := { program := "ytmghjpdchngedaa", sum := "d1f46f62f44266af60ed08c31710025a8eb8e54c2d62ce9f99f16e37b1564109", func := "turnbuckle/turnbucklelaw04.WireNumbers", spec := "wireNumbers", recurses := true, apart := false }
def WireNumbersSaid : Prop := wireNumbersRow.holds Try.pinned (OpenSpec.ofChange wireNumbersSpec)

/-- ITS FALSE NEIGHBOUR: 'it returns false'. Refute it at one input. -/
def wireNumbersWrong : ChangeSpec := { name := "wireNumbers", fn := fun _ => fun
  | [d1, d2] => { results := [.lit (.bool false)], args := [d1, d2] }
  | _ => none }
def WireNumbersWrongFalsely : Prop := wireNumbersRow.holds Try.pinned (OpenSpec.ofChange wireNumbersWrong)

/-- 'turnbucklelaw04.WireLengths': WHATEVER THE INPUT: true; the input reads as it did. -/
def wireLengthsSpec : ChangeSpec := { name := "wireLengths", fn := fun _ => fun
  | [d1, d2] => { results := [.lit (.bool true)], args := [d1, d2] }
  | _ => none }
def wireLengthsRow : OpenClaim := { program := "ytmghjpdchngedaa", sum := "d1f46f62f44266af60ed08c31710025a8eb8e54c2d62ce9f99f16e37b1564109", func := "turnbuckle/turnbucklelaw04.WireLengths", spec := "wireLengths", apart := false }
def WireLengthsSaid : Prop := wireLengthsRow.holds Try.pinned (OpenSpec.ofChange wireLengthsSpec)

/-- ITS FALSE NEIGHBOUR: 'it returns false'. Refute it at one input. -/
def wireLengthsWrong : ChangeSpec := { name := "wireLengths", fn := fun _ => fun
  | [d1, d2] => { results := [.lit (.bool false)], args := [d1, d2] }
  | _ => none }
def WireLengthsWrongFalsely : Prop := wireLengthsRow.holds Try.pinned (OpenSpec.ofChange wireLengthsWrong)

/-- 'turnbucklelaw04.WireTexts': WHATEVER THE INPUT: true; the input reads as it did. -/
def wireTextsSpec : ChangeSpec := { name := "wireTexts", fn := fun _ => fun
  | [d1, d2] => { results := [.lit (.bool true)], args := [d1, d2] }
  | _ => none }
def wireTextsRow : OpenClaim := { program := "ytmghjpdchngedaa", sum := "d1f46f62f44266af60ed08c31710025a8eb8e54c2d62ce9f99f16e37b1564109", func := "turnbuckle/turnbucklelaw04.WireTexts", spec := "wireTexts", recurses := true, apart := false }
def WireTextsSaid : Prop := wireTextsRow.holds Try.pinned (OpenSpec.ofChange wireTextsSpec)

/-- ITS FALSE NEIGHBOUR: 'it returns false'. Refute it at one input. -/
def wireTextsWrong : ChangeSpec := { name := "wireTexts", fn := fun _ => fun
  | [d1, d2] => { results := [.lit (.bool false)], args := [d1, d2] }
  | _ => none }
def WireTextsWrongFalsely : Prop := wireTextsRow.holds Try.pinned (OpenSpec.ofChange wireTextsWrong)

/-- 'turnbucklelaw04.WireInts': WHATEVER THE INPUT: true; the input reads as it did. -/
def wireIntsSpec : ChangeSpec := { name := "wireInts", fn := fun _ => fun
  | [d1, d2] => { results := [.lit (.bool true)], args := [d1, d2] }
  | _ => none }
def wireIntsRow : OpenClaim := { program := "ytmghjpdchngedaa", sum := "d1f46f62f44266af60ed08c31710025a8eb8e54c2d62ce9f99f16e37b1564109", func := "turnbuckle/turnbucklelaw04.WireInts", spec := "wireInts", recurses := true, apart := false }
def WireIntsSaid : Prop := wireIntsRow.holds Try.pinned (OpenSpec.ofChange wireIntsSpec)

/-- ITS FALSE NEIGHBOUR: 'it returns false'. Refute it at one input. -/
def wireIntsWrong : ChangeSpec := { name := "wireInts", fn := fun _ => fun
  | [d1, d2] => { results := [.lit (.bool false)], args := [d1, d2] }
  | _ => none }
def WireIntsWrongFalsely : Prop := wireIntsRow.holds Try.pinned (OpenSpec.ofChange wireIntsWrong)

/-- 'turnbucklelaw04.WireBack': WHATEVER THE INPUT: true; the input reads as it did. -/
def wireBackSpec : ChangeSpec := { name := "wireBack", fn := fun _ => fun
  | [d1, d2, d3, d4] => { results := [.lit (.bool true)], args := [d1, d2, d3, d4] }
  | _ => none }
def wireBackRow : OpenClaim := { program := "ytmghjpdchngedaa", sum := "d1f46f62f44266af60ed08c31710025a8eb8e54c2d62ce9f99f16e37b1564109", func := "turnbuckle/turnbucklelaw04.WireBack", spec := "wireBack", apart := false }
def WireBackSaid : Prop := wireBackRow.holds Try.pinned (OpenSpec.ofChange wireBackSpec)

/-- ITS FALSE NEIGHBOUR: 'it returns false'. Refute it at one input. -/
def wireBackWrong : ChangeSpec := { name := "wireBack", fn := fun _ => fun
  | [d1, d2, d3, d4] => { results := [.lit (.bool false)], args := [d1, d2, d3, d4] }
  | _ => none }
def WireBackWrongFalsely : Prop := wireBackRow.holds Try.pinned (OpenSpec.ofChange wireBackWrong)

/-- 'turnbucklelaw04.WireAgain': WHATEVER THE INPUT: true; the input reads as it did. -/
def wireAgainSpec : ChangeSpec := { name := "wireAgain", fn := fun _ => fun
  | [d] => { results := [.lit (.bool true)], args := [d] }
  | _ => none }
def wireAgainRow : OpenClaim := { program := "ytmghjpdchngedaa", sum := "d1f46f62f44266af60ed08c31710025a8eb8e54c2d62ce9f99f16e37b1564109", func := "turnbuckle/turnbucklelaw04.WireAgain", spec := "wireAgain", apart := false }
def WireAgainSaid : Prop := wireAgainRow.holds Try.pinned (OpenSpec.ofChange wireAgainSpec)

/-- ITS FALSE NEIGHBOUR: 'it returns false'. Refute it at one input. -/
def wireAgainWrong : ChangeSpec := { name := "wireAgain", fn := fun _ => fun
  | [d] => { results := [.lit (.bool false)], args := [d] }
  | _ => none }
def WireAgainWrongFalsely : Prop := wireAgainRow.holds Try.pinned (OpenSpec.ofChange wireAgainWrong)

/-- 'turnbucklelaw04.WireCuts': WHATEVER THE INPUT: true; the input reads as it did. -/
def wireCutsSpec : ChangeSpec := { name := "wireCuts", fn := fun _ => fun
  | [d1, d2, d3, d4] => { results := [.lit (.bool true)], args := [d1, d2, d3, d4] }
  | _ => none }
def wireCutsRow : OpenClaim := { program := "ytmghjpdchngedaa", sum := "d1f46f62f44266af60ed08c31710025a8eb8e54c2d62ce9f99f16e37b1564109", func := "turnbuckle/turnbucklelaw04.WireCuts", spec := "wireCuts", apart := false }
def WireCutsSaid : Prop := wireCutsRow.holds Try.pinned (OpenSpec.ofChange wireCutsSpec)

/-- ITS FALSE NEIGHBOUR: 'it returns false'. Refute it at one input. -/
def wireCutsWrong : ChangeSpec := { name := "wireCuts", fn := fun _ => fun
  | [d1, d2, d3, d4] => { results := [.lit (.bool false)], args := [d1, d2, d3, d4] }
  | _ => none }
def WireCutsWrongFalsely : Prop := wireCutsRow.holds Try.pinned (OpenSpec.ofChange wireCutsWrong)

/- THE SECOND FORM. 'bulk': how many values and letters a reading holds, each counted each time it is reached (what is shared counts as often as it is met; a slice's spare places count too). A statement '..UptoSaid' is the law's where the arguments, and the package variables that the reading takes, are together of bulk at most 1048576: NARROWER than '..Said'. Prove '..Said' where nothing that the law and all that it calls make is longer than what came in: it says more and counts as full. Else prove '..UptoSaid'. A law counts once. -/
mutual
def uptoBulk {H : Type} : DataW H → Nat
  | .lit (.string bytes) => bytes.length + 1
  | .lit _ => 1
  | .nil => 1
  | .ptr d => uptoBulk d + 1
  | .slice elems spare => uptoBulkAll elems + uptoBulkAll spare + 1
  | .agg parts => uptoBulkAll parts + 1
  | .iface _ d => uptoBulk d + 1
  | .map entries => uptoBulkEntries entries + 1
  | .held _ => 1
def uptoBulkAll {H : Type} : List (DataW H) → Nat
  | [] => 0
  | d :: r => uptoBulk d + uptoBulkAll r
def uptoBulkEntries {H : Type} : List (Lit × DataW H) → Nat
  | [] => 0
  | x :: r => uptoBulkEntry x + uptoBulkEntries r
def uptoBulkEntry {H : Type} : Lit × DataW H → Nat
  | (.string bytes, d) => bytes.length + uptoBulk d + 1
  | (_, d) => uptoBulk d + 1
 end
def uptoSmall : (H : Type) → List (DataW H) → Bool := fun _ ds => decide (uptoBulkAll ds ≤ 1048576)
def OpenSpec.upto (s : _root_.Go.ChangeSpec) : _root_.Go.OpenSpec := { _root_.Go.OpenSpec.ofChange s with cond := some uptoSmall }

/-- 'turnbucklelaw04.WireNumbers', WHERE WHAT IT READS IS OF BULK AT MOST 1048576: true; the input reads as it did. -/
def wireNumbersUptoRow : OpenClaim := { program := "ytmghjpdchngedaa", sum := "d1f46f62f44266af60ed08c31710025a8eb8e54c2d62ce9f99f16e37b1564109", func := "turnbuckle/turnbucklelaw04.WireNumbers", spec := "wireNumbers", recurses := true, apart := false, narrowed := true }
def WireNumbersUptoSaid : Prop := wireNumbersUptoRow.holds Try.pinned (OpenSpec.upto wireNumbersSpec)

/-- 'turnbucklelaw04.WireLengths', WHERE WHAT IT READS IS OF BULK AT MOST 1048576: true; the input reads as it did. -/
def wireLengthsUptoRow : OpenClaim := { program := "ytmghjpdchngedaa", sum := "d1f46f62f44266af60ed08c31710025a8eb8e54c2d62ce9f99f16e37b1564109", func := "turnbuckle/turnbucklelaw04.WireLengths", spec := "wireLengths", apart := false, narrowed := true }
def WireLengthsUptoSaid : Prop := wireLengthsUptoRow.holds Try.pinned (OpenSpec.upto wireLengthsSpec)

/-- 'turnbucklelaw04.WireTexts', WHERE WHAT IT READS IS OF BULK AT MOST 1048576: true; the input reads as it did. -/
def wireTextsUptoRow : OpenClaim := { program := "ytmghjpdchngedaa", sum := "d1f46f62f44266af60ed08c31710025a8eb8e54c2d62ce9f99f16e37b1564109", func := "turnbuckle/turnbucklelaw04.WireTexts", spec := "wireTexts", recurses := true, apart := false, narrowed := true }
def WireTextsUptoSaid : Prop := wireTextsUptoRow.holds Try.pinned (OpenSpec.upto wireTextsSpec)

/-- 'turnbucklelaw04.WireInts', WHERE WHAT IT READS IS OF BULK AT MOST 1048576: true; the input reads as it did. -/
def wireIntsUptoRow : OpenClaim := { program := "ytmghjpdchngedaa", sum := "d1f46f62f44266af60ed08c31710025a8eb8e54c2d62ce9f99f16e37b1564109", func := "turnbuckle/turnbucklelaw04.WireInts", spec := "wireInts", recurses := true, apart := false, narrowed := true }
def WireIntsUptoSaid : Prop := wireIntsUptoRow.holds Try.pinned (OpenSpec.upto wireIntsSpec)

/-- 'turnbucklelaw04.WireBack', WHERE WHAT IT READS IS OF BULK AT MOST 1048576: true; the input reads as it did. -/
def wireBackUptoRow : OpenClaim := { program := "ytmghjpdchngedaa", sum := "d1f46f62f44266af60ed08c31710025a8eb8e54c2d62ce9f99f16e37b1564109", func := "turnbuckle/turnbucklelaw04.WireBack", spec := "wireBack", apart := false, narrowed := true }
def WireBackUptoSaid : Prop := wireBackUptoRow.holds Try.pinned (OpenSpec.upto wireBackSpec)

/-- 'turnbucklelaw04.WireAgain', WHERE WHAT IT READS IS OF BULK AT MOST 1048576: true; the input reads as it did. -/
def wireAgainUptoRow : OpenClaim := { program := "ytmghjpdchngedaa", sum := "d1f46f62f44266af60ed08c31710025a8eb8e54c2d62ce9f99f16e37b1564109", func := "turnbuckle/turnbucklelaw04.WireAgain", spec := "wireAgain", apart := false, narrowed := true }
def WireAgainUptoSaid : Prop := wireAgainUptoRow.holds Try.pinned (OpenSpec.upto wireAgainSpec)

/-- 'turnbucklelaw04.WireCuts', WHERE WHAT IT READS IS OF BULK AT MOST 1048576: true; the input reads as it did. -/
def wireCutsUptoRow : OpenClaim := { program := "ytmghjpdchngedaa", sum := "d1f46f62f44266af60ed08c31710025a8eb8e54c2d62ce9f99f16e37b1564109", func := "turnbuckle/turnbucklelaw04.WireCuts", spec := "wireCuts", apart := false, narrowed := true }
def WireCutsUptoSaid : Prop := wireCutsUptoRow.holds Try.pinned (OpenSpec.upto wireCutsSpec)

end Rows
end Go.Proofs.Ytmghjpdchngedaa
