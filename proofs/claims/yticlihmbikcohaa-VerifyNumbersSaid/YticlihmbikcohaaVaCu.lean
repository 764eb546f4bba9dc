/- a body's tail, held back: a walk stops there -/
import Derived.Test.YticlihmbikcohaaVaWp
namespace Go.Proofs.Yticlihmbikcohaa.Va
open Go
/-- the nth tail of a row of codes -/
def tl : Nat → Code → Code
  | 0, c => c
  | n + 1, .seq _ b => tl n b
  | _, c => c
/-- the row, with another tail -/
def spl : Nat → Code → Code → Code
  | 0, _, t => t
  | n + 1, .seq a b, t => .seq a (spl n b t)
  | _, _, t => t
theorem spl_tl : ∀ (n : Nat) (c : Code), spl n c (tl n c) = c
  | 0, _ => rfl
  | n + 1, .seq a b => by simp only [spl, tl, spl_tl n b]
  | n + 1, .skip => rfl
  | n + 1, .region .. => rfl
  | n + 1, .cond .. => rfl
  | n + 1, .block .. => rfl
  | n + 1, .loop .. => rfl
  | n + 1, .rangeFunc .. => rfl
  | n + 1, .exit .. => rfl
  | n + 1, .scope .. => rfl
  | n + 1, .label .. => rfl
  | n + 1, .goto .. => rfl
  | n + 1, .ret => rfl
  | n + 1, .refuse .. => rfl
theorem cut (n : Nat) {R : Type} (C : Cfg) (call : Caller) (f : FuncId) (c : Code) (ρ : Env) (σ : St) (k : Ex → Env → St → Option R) : evalCode C call f c ρ σ k = evalCode C call f (spl n c (tl n c)) ρ σ k := by rw [spl_tl]
end Go.Proofs.Yticlihmbikcohaa.Va
