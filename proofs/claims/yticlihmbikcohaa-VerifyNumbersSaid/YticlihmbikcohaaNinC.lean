/- chapter 19: what the interpreter is told -/
import Derived.Test.YticlihmbikcohaaVaTab
import Derived.Test.YticlihmbikcohaaVaAu
import Derived.KernelRfl
import Derived.Test.YticlihmbikcohaaHWireName
namespace Go.Proofs.Yticlihmbikcohaa.Va
open Go
/-- Is it a name? -/
def nameB (s : ByteArray) : Bool := s.data.toList.all (fun b => HWireName.okB (b.toNat : Int)) && decide (0 < s.size) && decide (s.size ≤ 16)
def ext5 (f : FuncId) : Option (List AV → St → Option (AV × St)) :=
  match f with
  | 67 => some fun args σ => match args with | [.str s] => some (.bool (nameB s), σ) | _ => none
  | 73 => some fun args σ => match args with | [.int .u64 x, .int .u64 y, .int .u64 c] => (if 0 ≤ x ∧ 0 ≤ y ∧ 0 ≤ c ∧ c ≤ 1 then some (.tup [.int .u64 ((x + y + c) % 18446744073709551616), .int .u64 ((x + y + c) / 18446744073709551616)], σ) else none) | _ => none
  | _ => none
def CC : Cfg := ⟨T, fun f => f != 58 && f != 59 && f != 60 && f != 61 && f != 62 && f != 63 && f != 88 && f != 89 && f != 90 && f != 92 && f != 93 && f != 94 && f != 96 && f != 98 && f != 99 && f != 100 && f != 80 && f != 102 && f != 106 && f != 107 && f != 69 && f != 29 && f != 50 && f != 72 && f != 22 && f != 17 && f != 18 && f != 25 && f != 26 && f != 36 && f != 41 && f != 42 && f != 54 && f != 82 && f != 56 && f != 79 && f != 1000081, fun f => f == 1000081 || f == 22 || f == 17, fun f t => (f == 92 && t == 10) || (f == 1000081 && t == 7) || (f == 54 && t == 79), 9223372036854775900, ext5, fun f => f == 97 || f == 25, fun f => f == 43, fun _ => false⟩
theorem CCT : CC.T = T := nr rfl
theorem CCv (f : FuncId) : CC.isVal f = (f != 58 && f != 59 && f != 60 && f != 61 && f != 62 && f != 63 && f != 88 && f != 89 && f != 90 && f != 92 && f != 93 && f != 94 && f != 96 && f != 98 && f != 99 && f != 100 && f != 80 && f != 102 && f != 106 && f != 107 && f != 69 && f != 29 && f != 50 && f != 72 && f != 22 && f != 17 && f != 18 && f != 25 && f != 26 && f != 36 && f != 41 && f != 42 && f != 54 && f != 82 && f != 56 && f != 79 && f != 1000081) := nr rfl
theorem CCr (f : FuncId) (t : Tmp) : CC.row f t = ((f == 92 && t == 10) || (f == 1000081 && t == 7) || (f == 54 && t == 79)) := nr rfl
theorem CCk (f : FuncId) : CC.keep f = (f == 1000081 || f == 22 || f == 17) := nr rfl
theorem CCx (f : FuncId) : CC.kills f = (f == 97 || f == 25) := nr rfl
theorem CCq (f : FuncId) : CC.calm f = (f == 43) := nr rfl
theorem CCp (f : FuncId) : CC.peek f = false := nr rfl
attribute [go_sem] CCT CCv CCr CCk CCx CCq CCp List.isEmpty_nil Bool.or_false Bool.false_or Bool.or_true Bool.true_or beqI bneI List.length_map decide_true decide_false not_true_eq_false not_false_eq_true Bool.and_true Bool.true_and Bool.and_false Bool.false_and and_true true_and and_self Bool.not_not
attribute [go_sem_proc] Nat.reduceEqDiff Nat.reduceAdd reduceCtorEq Nat.reduceBNe Nat.reduceBEq Nat.reduceLeDiff Nat.reduceLT Int.reduceEq Int.reduceLT Int.reduceLE Int.reduceGE Int.reduceGT
attribute [go_sem_proc ↓] reduceIte
end Go.Proofs.Yticlihmbikcohaa.Va
