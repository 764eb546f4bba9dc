/- chapter 18: what the interpreter is told -/
import Derived.Test.YtdbpnkemlmagoaaVaTab
import Derived.Test.YtdbpnkemlmagoaaVaAu
import Derived.KernelRfl
import Derived.Test.YtdbpnkemlmagoaaHWireName
namespace Go.Proofs.Ytdbpnkemlmagoaa.Va
open Go
/-- Is it a name? -/
def nameB (s : ByteArray) : Bool := s.data.toList.all (fun b => HWireName.okB (b.toNat : Int)) && decide (0 < s.size) && decide (s.size ≤ 16)
def ext5 (f : FuncId) : Option (List AV → St → Option (AV × St)) :=
  match f with
  | 49 => some fun args σ => match args with | [.str s] => some (.bool (nameB s), σ) | _ => none
  | _ => none
def CC : Cfg := ⟨T, fun f => f != 15 && f != 16 && f != 17 && f != 18 && f != 19 && f != 20 && f != 26 && f != 27 && f != 28 && f != 30 && f != 31 && f != 32 && f != 34 && f != 36 && f != 37 && f != 38 && f != 46 && f != 55 && f != 47 && f != 48 && f != 51 && f != 25 && f != 1000044, fun f => f == 1000044, fun f t => (f == 30 && t == 10) || (f == 1000044 && t == 7), 9223372036854775900, ext5, fun f => f == 35⟩
theorem CCT : CC.T = T := nr rfl
theorem CCv (f : FuncId) : CC.isVal f = (f != 15 && f != 16 && f != 17 && f != 18 && f != 19 && f != 20 && f != 26 && f != 27 && f != 28 && f != 30 && f != 31 && f != 32 && f != 34 && f != 36 && f != 37 && f != 38 && f != 46 && f != 55 && f != 47 && f != 48 && f != 51 && f != 25 && f != 1000044) := nr rfl
theorem CCr (f : FuncId) (t : Tmp) : CC.row f t = ((f == 30 && t == 10) || (f == 1000044 && t == 7)) := nr rfl
theorem CCk (f : FuncId) : CC.keep f = (f == 1000044) := nr rfl
theorem CCx (f : FuncId) : CC.kills f = (f == 35) := nr rfl
end Go.Proofs.Ytdbpnkemlmagoaa.Va
