/- chapter 5: TypesLayouts -/
import Derived.Test.YtjembadjfiohpaaFivB
namespace Go.Proofs.Ytjembadjfiohpaa.Va
open Go
set_option linter.unusedVariables false
set_option linter.unusedSimpArgs false
set_option maxRecDepth 100000
set_option maxHeartbeats 1000000 in
theorem law4 (d : Nat) (name : ByteArray) (v r b : Bool) (fs : List Fld) : evalF Try.prog CC (d + 50) 4 [encT name v r b fs] St.empty = some (.bool true, St.empty) := by
  have hs : evalF Try.prog CC (d + 49) 11 [] St.empty = _ := shown_c (d + 9)
  have hl : evalF Try.prog CC (d + 49) 14 [encT name v r b fs] St.empty = _ := Layout_c (d + 44) name v r b fs
  have hm : evalF Try.prog CC (d + 49) 15 [encT name v r b fs] St.empty = _ := RefLayout_c (d + 44) name v r b fs
  rw [run_4 _ _ _ (by simp)]
  unfold Try.f4
  simp only [Option.getD_some]
  have hx := layR_cases fs
  generalize layR fs = x at hl hm hx
  rcases hx with ⟨n, e, rfl⟩ | ⟨xs, a, hlen, rfl⟩
  · have hsm := Same_mt (d + 44)
    simp only [go_sem, ↓reduceIte, Nat.reduceEqDiff, Nat.reduceAdd, reduceCtorEq, CCT, CCv, CCr, CCk, Nat.reduceBNe, Nat.reduceLeDiff, hs, hl, hm, hsm]
  · have hsm : evalF Try.prog CC (d + 49) 16 [.list 3 false (intsA xs) none, .list 3 false (intsA xs) none] St.empty = _ := Same_c (d + 44) false false none none xs xs hlen
    simp only [go_sem, ↓reduceIte, Nat.reduceEqDiff, Nat.reduceAdd, reduceCtorEq, CCT, CCv, CCr, CCk, Nat.reduceBNe, Nat.reduceLeDiff, hs, hl, hm, hsm]
end Go.Proofs.Ytjembadjfiohpaa.Va
