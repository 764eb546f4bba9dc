/- HeapNobody: its text run by the interpreter -/
import Derived.Test.YtlkmhmiicagfmaaDoorVaFun
import Derived.Test.YtlkmhmiicagfmaaDoorDooG
namespace Go.Proofs.YtlkmhmiicagfmaaDoor.Va
open Go
set_option maxRecDepth 100000
theorem heapNobody_run (d : Nat) (x y z : Int) : (evalF Tryd.prog CC (d + 60) 3 [.int .i64 x, .int .i64 y, .int .i64 z] St.empty).map (·.1) = some (.bool true) := by
  kernel_rfl
theorem arg_i64 {v : AV} (h : Arg T 3 v) : ∃ n, v = .int .i64 n := by
  have ht : T.ty 3 = some (.int .i64) := by rfl
  cases h <;> simp_all
theorem of_map {x : Option (AV × St)} {v : AV} (h : x.map (·.1) = some v) : ∃ σ', x = some (v, σ') := by
  cases x with
  | none => cases h
  | some p => exact ⟨p.2, by simp only [Option.map_some, Option.some.injEq] at h; rw [← h]⟩
theorem heapNobody_law (d : Nat) (a b c : AV) (ha : Arg T 3 a) (hb : Arg T 3 b) (hc : Arg T 3 c) : ∃ σ', evalF Tryd.prog CC (d + 60) 3 [a, b, c] St.empty = some (.bool true, σ') := by
  obtain ⟨x, rfl⟩ := arg_i64 ha
  obtain ⟨y, rfl⟩ := arg_i64 hb
  obtain ⟨z, rfl⟩ := arg_i64 hc
  exact of_map (heapNobody_run d x y z)
end Go.Proofs.YtlkmhmiicagfmaaDoor.Va
