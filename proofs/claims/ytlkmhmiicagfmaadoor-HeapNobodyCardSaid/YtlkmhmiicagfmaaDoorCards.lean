/-
  DERIVED. GIVEN WITH THE SEED: THE CARDS: each row of YtlkmhmiicagfmaaDoorRows.lean that lists a variable, with what it lists TIED to the program's text (the seventh form; the later family's looks); each row that meets fmt, with fmt's text TOLD by the authors' own Lean function (tested against real Go, not proved from fmt's source: count such statements apart). THE CARD IS WHAT COUNTS. Prove the row's statement (the work); the ties are given (YtlkmhmiicagfmaaDoorTie.lean); close each card by the builder's one call (the guide's Derived/Test/ToyasCard.lean, 'card_holds'). Laid BY PROGRAM, IN A SANDBOX (cutbox-door.mjs). By AI agents, Wed Nov 11 2026. No macro, syntax, notation, axiom, sorry.
-/
import Derived.Test.YtlkmhmiicagfmaaDoorRows
import GoSem.ClaimSeven
namespace Go.Proofs.YtlkmhmiicagfmaaDoor
namespace Rows

/-- THE TIED CARD OF 'turnbucklelaw12.HeapNobody'. -/
def heapNobodyCard : Claim7 := { stood := { row := heapNobodyRow, standIns := [], harness := (true, "e319d2f3ae9ccc72d49ee94c50275e1a47e0898f4debcdb3f8ac7aff36c2b9d0"), looks := false }, kinds := [], alts := [], laidByText := true, laidKinds := [.data], laidTests := true, laidLooks := .later }
def HeapNobodyCardSaid : Prop := Claim7.holds Tryd.pinned (.plain (OpenSpec.ofChange heapNobodySpec)) heapNobodyCard

/-- THE TIED CARD OF 'turnbucklelaw13.GroupOne'. -/
def groupOneCard : Claim7 := { stood := { row := groupOneRow, standIns := [], harness := (true, "e319d2f3ae9ccc72d49ee94c50275e1a47e0898f4debcdb3f8ac7aff36c2b9d0"), looks := false }, kinds := [], alts := [], laidByText := true, laidKinds := [.data], laidTests := true, laidLooks := .later }
def GroupOneCardSaid : Prop := Claim7.holds Tryd.pinned (.plain (OpenSpec.ofChange groupOneSpec)) groupOneCard

/-- THE TIED CARD OF 'turnbucklelaw15.TableNobody'. -/
def tableNobodyCard : Claim7 := { stood := { row := tableNobodyRow, standIns := [], harness := (true, "e319d2f3ae9ccc72d49ee94c50275e1a47e0898f4debcdb3f8ac7aff36c2b9d0"), looks := false }, kinds := [], alts := [], laidByText := true, laidKinds := [.data], laidTests := true, laidLooks := .later }
def TableNobodyCardSaid : Prop := Claim7.holds Tryd.pinned (.plain (OpenSpec.ofChange tableNobodySpec)) tableNobodyCard

/-- THE SECOND FORM's CARD OF 'turnbucklelaw12.HeapNobody'. -/
def heapNobodyUptoCard : Claim7 := { stood := { row := heapNobodyUptoRow, standIns := [], harness := (true, "e319d2f3ae9ccc72d49ee94c50275e1a47e0898f4debcdb3f8ac7aff36c2b9d0"), looks := false }, kinds := [], alts := [], laidByText := true, laidKinds := [.data], laidTests := true, laidLooks := .later }
def HeapNobodyUptoCardSaid : Prop := Claim7.holds Tryd.pinned (.plain (OpenSpec.upto heapNobodySpec)) heapNobodyUptoCard

/-- THE SECOND FORM's CARD OF 'turnbucklelaw13.GroupOne'. -/
def groupOneUptoCard : Claim7 := { stood := { row := groupOneUptoRow, standIns := [], harness := (true, "e319d2f3ae9ccc72d49ee94c50275e1a47e0898f4debcdb3f8ac7aff36c2b9d0"), looks := false }, kinds := [], alts := [], laidByText := true, laidKinds := [.data], laidTests := true, laidLooks := .later }
def GroupOneUptoCardSaid : Prop := Claim7.holds Tryd.pinned (.plain (OpenSpec.upto groupOneSpec)) groupOneUptoCard

/-- THE SECOND FORM's CARD OF 'turnbucklelaw15.TableNobody'. -/
def tableNobodyUptoCard : Claim7 := { stood := { row := tableNobodyUptoRow, standIns := [], harness := (true, "e319d2f3ae9ccc72d49ee94c50275e1a47e0898f4debcdb3f8ac7aff36c2b9d0"), looks := false }, kinds := [], alts := [], laidByText := true, laidKinds := [.data], laidTests := true, laidLooks := .later }
def TableNobodyUptoCardSaid : Prop := Claim7.holds Tryd.pinned (.plain (OpenSpec.upto tableNobodySpec)) tableNobodyUptoCard
end Rows
end Go.Proofs.YtlkmhmiicagfmaaDoor
