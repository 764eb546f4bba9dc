/- chapter 5: what the interpreter is told -/
import Derived.Test.YtjembadjfiohpaaVaTab
import Derived.Test.YtjembadjfiohpaaVaAu
import Derived.KernelRfl
import Derived.Test.YtjembadjfiohpaaHWireName
namespace Go.Proofs.Ytjembadjfiohpaa.Va
open Go
/-- Is it a name? -/
def nameB (s : ByteArray) : Bool := s.data.toList.all (fun b => HWireName.okB (b.toNat : Int)) && decide (0 < s.size) && decide (s.size ≤ 16)
def ext5 (f : FuncId) : Option (List AV → St → Option (AV × St)) :=
  match f with
  | 43 => some fun args σ => match args with | [.str s] => some (.bool (nameB s), σ) | _ => none
  | _ => none
def CC : Cfg := ⟨T, fun f => f != 46 && f != 23, fun _ => false, fun _ _ => false, 9223372036854775900, ext5⟩
theorem CCT : CC.T = T := nr rfl
theorem CCv (f : FuncId) : CC.isVal f = (f != 46 && f != 23) := nr rfl
theorem CCr (f : FuncId) (t : Tmp) : CC.row f t = false := nr rfl
theorem CCk (f : FuncId) : CC.keep f = false := nr rfl
end Go.Proofs.Ytjembadjfiohpaa.Va
