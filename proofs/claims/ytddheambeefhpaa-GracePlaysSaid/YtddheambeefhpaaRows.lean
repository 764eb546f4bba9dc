/-
  No cell of these rows narrows 'for every input' (looked for: loops, veiled, ifaces, maps, wideKeys, modest, calm, conditions, laid).
  DERIVED. THE GIVEN ROWS OF THIS SEAT. 5 by the template 'for every input the law returns true; each argument reads behind the call as it read before'; 0 by the template 'total and deterministic' (their statements: YtddheambeefhpaaTotals.lean).
  GIVEN WITH THE SEED: the statements are not yours to turn. If you find one false, say at which input.
  Laid BY PROGRAM, IN A SANDBOX (cutbox-rows.mjs): the forced cells as the released guide's own fill.sh prints them over the translation 1521830824acb873… (all of the seat's roots in one cut). By AI agents, Wed Nov 11 2026. No macro, syntax, notation, axiom, sorry.
-/
import Derived.Test.YtddheambeefhpaaChecked
import GoSem.Claim
import GoSem.ClaimJoined
import GoSem.ClaimMapViews
import Derived.JoinedTies
import Derived.KernelRfl
namespace Go.Proofs.Ytddheambeefhpaa
/- THE CELL 'sum', in the pinned program and in every row, IS THE sha256 OF THE DUMP (.gsa) THAT YtddheambeefhpaaProg.lean LOADS. Nothing in Lean hashes anything: it is a label: what it is worth is what the hold of that sum in a sandbox is worth. -/
noncomputable def Try.pinned : Pinned := { name := "ytddheambeefhpaa", sum := "1521830824acb87306bf651cfafd1e0aed05f5444655b0b8fb64389aba5f33ab", checked := Try.checked }
namespace Rows
def none {H : Type} : Left H := { results := [], args := [] }

/-- 'turnbucklelaw14.GraceSafe': WHATEVER THE INPUT: true; the input reads as it did. -/
def graceSafeSpec : ChangeSpec := { name := "graceSafe", fn := fun _ => fun
  | [d1, d2] => { results := [.lit (.bool true)], args := [d1, d2] }
  | _ => none }
def graceSafeRow : OpenClaim := { program := "ytddheambeefhpaa", sum := "1521830824acb87306bf651cfafd1e0aed05f5444655b0b8fb64389aba5f33ab", func := "turnbuckle/turnbucklelaw14.GraceSafe", spec := "graceSafe", apart := false }
def GraceSafeSaid : Prop := graceSafeRow.holds Try.pinned (OpenSpec.ofChange graceSafeSpec)

/-- ITS FALSE NEIGHBOUR: 'it returns false'. Refute it at one input. -/
def graceSafeWrong : ChangeSpec := { name := "graceSafe", fn := fun _ => fun
  | [d1, d2] => { results := [.lit (.bool false)], args := [d1, d2] }
  | _ => none }
def GraceSafeWrongFalsely : Prop := graceSafeRow.holds Try.pinned (OpenSpec.ofChange graceSafeWrong)

/-- 'turnbucklelaw14.GraceAll': WHATEVER THE INPUT: true; the input reads as it did. -/
def graceAllSpec : ChangeSpec := { name := "graceAll", fn := fun _ => fun
  | [d1, d2] => { results := [.lit (.bool true)], args := [d1, d2] }
  | _ => none }
def graceAllRow : OpenClaim := { program := "ytddheambeefhpaa", sum := "1521830824acb87306bf651cfafd1e0aed05f5444655b0b8fb64389aba5f33ab", func := "turnbuckle/turnbucklelaw14.GraceAll", spec := "graceAll", apart := false }
def GraceAllSaid : Prop := graceAllRow.holds Try.pinned (OpenSpec.ofChange graceAllSpec)

/-- ITS FALSE NEIGHBOUR: 'it returns false'. Refute it at one input. -/
def graceAllWrong : ChangeSpec := { name := "graceAll", fn := fun _ => fun
  | [d1, d2] => { results := [.lit (.bool false)], args := [d1, d2] }
  | _ => none }
def GraceAllWrongFalsely : Prop := graceAllRow.holds Try.pinned (OpenSpec.ofChange graceAllWrong)

/-- 'turnbucklelaw14.GraceOrder': WHATEVER THE INPUT: true; the input reads as it did. -/
def graceOrderSpec : ChangeSpec := { name := "graceOrder", fn := fun _ => fun
  | [d] => { results := [.lit (.bool true)], args := [d] }
  | _ => none }
def graceOrderRow : OpenClaim := { program := "ytddheambeefhpaa", sum := "1521830824acb87306bf651cfafd1e0aed05f5444655b0b8fb64389aba5f33ab", func := "turnbuckle/turnbucklelaw14.GraceOrder", spec := "graceOrder", apart := false }
def GraceOrderSaid : Prop := graceOrderRow.holds Try.pinned (OpenSpec.ofChange graceOrderSpec)

/-- ITS FALSE NEIGHBOUR: 'it returns false'. Refute it at one input. -/
def graceOrderWrong : ChangeSpec := { name := "graceOrder", fn := fun _ => fun
  | [d] => { results := [.lit (.bool false)], args := [d] }
  | _ => none }
def GraceOrderWrongFalsely : Prop := graceOrderRow.holds Try.pinned (OpenSpec.ofChange graceOrderWrong)

/-- 'turnbucklelaw14.GracePlays': WHATEVER THE INPUT: true; the input reads as it did. -/
def gracePlaysSpec : ChangeSpec := { name := "gracePlays", fn := fun _ => fun
  | [d] => { results := [.lit (.bool true)], args := [d] }
  | _ => none }
def gracePlaysRow : OpenClaim := { program := "ytddheambeefhpaa", sum := "1521830824acb87306bf651cfafd1e0aed05f5444655b0b8fb64389aba5f33ab", func := "turnbuckle/turnbucklelaw14.GracePlays", spec := "gracePlays", apart := false }
def GracePlaysSaid : Prop := gracePlaysRow.holds Try.pinned (OpenSpec.ofChange gracePlaysSpec)

/-- ITS FALSE NEIGHBOUR: 'it returns false'. Refute it at one input. -/
def gracePlaysWrong : ChangeSpec := { name := "gracePlays", fn := fun _ => fun
  | [d] => { results := [.lit (.bool false)], args := [d] }
  | _ => none }
def GracePlaysWrongFalsely : Prop := gracePlaysRow.holds Try.pinned (OpenSpec.ofChange gracePlaysWrong)

/-- 'turnbucklelaw14.GraceNobody': WHATEVER THE INPUT: true; the input reads as it did. -/
def graceNobodySpec : ChangeSpec := { name := "graceNobody", fn := fun _ => fun
  | [d] => { results := [.lit (.bool true)], args := [d] }
  | _ => none }
def graceNobodyRow : OpenClaim := { program := "ytddheambeefhpaa", sum := "1521830824acb87306bf651cfafd1e0aed05f5444655b0b8fb64389aba5f33ab", func := "turnbuckle/turnbucklelaw14.GraceNobody", spec := "graceNobody", apart := false }
def GraceNobodySaid : Prop := graceNobodyRow.holds Try.pinned (OpenSpec.ofChange graceNobodySpec)

/-- ITS FALSE NEIGHBOUR: 'it returns false'. Refute it at one input. -/
def graceNobodyWrong : ChangeSpec := { name := "graceNobody", fn := fun _ => fun
  | [d] => { results := [.lit (.bool false)], args := [d] }
  | _ => none }
def GraceNobodyWrongFalsely : Prop := graceNobodyRow.holds Try.pinned (OpenSpec.ofChange graceNobodyWrong)

/- THE SECOND FORM. 'bulk': how many values and letters a reading holds, each counted each time it is reached (what is shared counts as often as it is met; a slice's spare places count too). A statement '..UptoSaid' is the law's where the arguments, and the package variables that the reading takes, are together of bulk at most 1048576: NARROWER than '..Said'. Prove '..Said' where nothing that the law and all that it calls make is longer than what came in: it says more and counts as full. Else prove '..UptoSaid'. A law counts once. -/
mutual
def uptoBulk {H : Type} : DataW H → Nat
  | .lit (.string bytes) => bytes.length + 1
  | .lit _ => 1
  | .nil => 1
  | .ptr d => uptoBulk d + 1
  | .slice elems spare => uptoBulkAll elems + uptoBulkAll spare + 1
  | .agg parts => uptoBulkAll parts + 1
  | .iface _ d => uptoBulk d + 1
  | .map entries => uptoBulkEntries entries + 1
  | .held _ => 1
def uptoBulkAll {H : Type} : List (DataW H) → Nat
  | [] => 0
  | d :: r => uptoBulk d + uptoBulkAll r
def uptoBulkEntries {H : Type} : List (Lit × DataW H) → Nat
  | [] => 0
  | x :: r => uptoBulkEntry x + uptoBulkEntries r
def uptoBulkEntry {H : Type} : Lit × DataW H → Nat
  | (.string bytes, d) => bytes.length + uptoBulk d + 1
  | (_, d) => uptoBulk d + 1
 end
def uptoSmall : (H : Type) → List (DataW H) → Bool := fun _ ds => decide (uptoBulkAll ds ≤ 1048576)
def OpenSpec.upto (s : _root_.Go.ChangeSpec) : _root_.Go.OpenSpec := { _root_.Go.OpenSpec.ofChange s with cond := some uptoSmall }

/-- 'turnbucklelaw14.GraceSafe', WHERE WHAT IT READS IS OF BULK AT MOST 1048576: true; the input reads as it did. -/
def graceSafeUptoRow : OpenClaim := { program := "ytddheambeefhpaa", sum := "1521830824acb87306bf651cfafd1e0aed05f5444655b0b8fb64389aba5f33ab", func := "turnbuckle/turnbucklelaw14.GraceSafe", spec := "graceSafe", apart := false, narrowed := true }
def GraceSafeUptoSaid : Prop := graceSafeUptoRow.holds Try.pinned (OpenSpec.upto graceSafeSpec)

/-- 'turnbucklelaw14.GraceAll', WHERE WHAT IT READS IS OF BULK AT MOST 1048576: true; the input reads as it did. -/
def graceAllUptoRow : OpenClaim := { program := "ytddheambeefhpaa", sum := "1521830824acb87306bf651cfafd1e0aed05f5444655b0b8fb64389aba5f33ab", func := "turnbuckle/turnbucklelaw14.GraceAll", spec := "graceAll", apart := false, narrowed := true }
def GraceAllUptoSaid : Prop := graceAllUptoRow.holds Try.pinned (OpenSpec.upto graceAllSpec)

/-- 'turnbucklelaw14.GraceOrder', WHERE WHAT IT READS IS OF BULK AT MOST 1048576: true; the input reads as it did. -/
def graceOrderUptoRow : OpenClaim := { program := "ytddheambeefhpaa", sum := "1521830824acb87306bf651cfafd1e0aed05f5444655b0b8fb64389aba5f33ab", func := "turnbuckle/turnbucklelaw14.GraceOrder", spec := "graceOrder", apart := false, narrowed := true }
def GraceOrderUptoSaid : Prop := graceOrderUptoRow.holds Try.pinned (OpenSpec.upto graceOrderSpec)

/-- 'turnbucklelaw14.GracePlays', WHERE WHAT IT READS IS OF BULK AT MOST 1048576: true; the input reads as it did. -/
def gracePlaysUptoRow : OpenClaim := { program := "ytddheambeefhpaa", sum := "1521830824acb87306bf651cfafd1e0aed05f5444655b0b8fb64389aba5f33ab", func := "turnbuckle/turnbucklelaw14.GracePlays", spec := "gracePlays", apart := false, narrowed := true }
def GracePlaysUptoSaid : Prop := gracePlaysUptoRow.holds Try.pinned (OpenSpec.upto gracePlaysSpec)

/-- 'turnbucklelaw14.GraceNobody', WHERE WHAT IT READS IS OF BULK AT MOST 1048576: true; the input reads as it did. -/
def graceNobodyUptoRow : OpenClaim := { program := "ytddheambeefhpaa", sum := "1521830824acb87306bf651cfafd1e0aed05f5444655b0b8fb64389aba5f33ab", func := "turnbuckle/turnbucklelaw14.GraceNobody", spec := "graceNobody", apart := false, narrowed := true }
def GraceNobodyUptoSaid : Prop := graceNobodyUptoRow.holds Try.pinned (OpenSpec.upto graceNobodySpec)

end Rows
end Go.Proofs.Ytddheambeefhpaa
