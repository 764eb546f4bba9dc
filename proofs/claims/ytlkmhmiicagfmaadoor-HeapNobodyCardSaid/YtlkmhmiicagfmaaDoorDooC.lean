/- the doors: what the interpreter is told -/
import Derived.Test.YtlkmhmiicagfmaaDoorVaTab
import Derived.Test.YtlkmhmiicagfmaaDoorVaAu
import Derived.KernelRfl
import Derived.Test.YtlkmhmiicagfmaaDoorHWireName
namespace Go.Proofs.YtlkmhmiicagfmaaDoor.Va
open Go
/-- Is it a name? -/
def nameB (s : ByteArray) : Bool := s.data.toList.all (fun b => HWireName.okB (b.toNat : Int)) && decide (0 < s.size) && decide (s.size ≤ 16)
def ext5 (f : FuncId) : Option (List AV → St → Option (AV × St)) :=
  match f with
  | 129 => some fun args σ => match args with | [.str s] => some (.bool (nameB s), σ) | _ => none
  | _ => none
def valB (f : FuncId) : Bool :=
  match f with
  | 44 => true
  | 45 => true
  | 47 => true
  | 57 => true
  | 61 => true
  | 64 => true
  | 68 => true
  | 72 => true
  | 77 => true
  | 80 => true
  | 95 => true
  | 101 => true
  | 124 => true
  | 125 => true
  | 110 => true
  | 104 => true
  | 127 => true
  | 108 => true
  | 129 => true
  | 130 => true
  | 109 => true
  | 132 => true
  | 133 => true
  | 121 => true
  | 139 => true
  | 18 => true
  | _ => false
def CC : Cfg := ⟨T, valB, fun _ => true, fun f t => f == 74 && t == 11, 9223372036854775900, ext5, fun _ => false, fun _ => false⟩
theorem CCT : CC.T = T := nr rfl
theorem CCv (f : FuncId) : CC.isVal f = valB f := nr rfl
theorem CCr (f : FuncId) (t : Tmp) : CC.row f t = (f == 74 && t == 11) := nr rfl
theorem CCk (f : FuncId) : CC.keep f = true := nr rfl
theorem CCx (f : FuncId) : CC.kills f = false := nr rfl
theorem CCq (f : FuncId) : CC.calm f = false := nr rfl
end Go.Proofs.YtlkmhmiicagfmaaDoor.Va
