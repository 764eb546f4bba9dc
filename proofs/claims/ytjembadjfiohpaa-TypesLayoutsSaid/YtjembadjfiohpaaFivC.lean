/- chapter 5: what the interpreter is told -/
import Derived.Test.YtjembadjfiohpaaVaTab
import Derived.Test.YtjembadjfiohpaaVaG
import Derived.KernelRfl
import Derived.Test.YtjembadjfiohpaaHWireName
namespace Go.Proofs.Ytjembadjfiohpaa.Va
open Go
/-- Is it a name? -/
def nameB (s : ByteArray) : Bool := s.data.toList.all (fun b => HWireName.okB (b.toNat : Int)) && decide (0 < s.size) && decide (s.size ≤ 16)
def ext5 (f : FuncId) : Option (List AV → St → Option (AV × St)) :=
  match f with
  | 43 => some fun args σ => match args with | [.str s] => some (.bool (nameB s), σ) | _ => none
  | _ => none
def CC : Cfg := ⟨T, fun f => f != 46 && f != 23, fun _ => false, fun _ _ => false, 9223372036854775807, ext5⟩
theorem CCT : CC.T = T := nr rfl
theorem CCv (f : FuncId) : CC.isVal f = (f != 46 && f != 23) := nr rfl
theorem CCr (f : FuncId) (t : Tmp) : CC.row f t = false := nr rfl
theorem CCk (f : FuncId) : CC.keep f = false := nr rfl
theorem br_split {R : Type} {t : Bool} {x y r : Option R} (h1 : t = true → x = r) (h2 : t = false → y = r) : @br R t ⟨x⟩ ⟨y⟩ = r := by
  cases t
  · exact h2 rfl
  · exact h1 rfl
theorem want_split {R : Type} {t w : Bool} {x y r : Option R} (h1 : t = w → x = r) (h2 : t = (!w) → y = r) : @sel R (wantB (.bool t) w) ⟨x⟩ ⟨y⟩ = r := by
  cases t <;> cases w
  · exact h1 rfl
  · exact h2 rfl
  · exact h2 rfl
  · exact h1 rfl
/-- A loop: N rounds, each of which leads to the next, or out; behind them it leads out. -/
theorem iter_rule {R : Type} {B : Env → St → (Ex → Env → St → Option R) → Option R} {k : Ex → Env → St → Option R} {X : Option R} (I : Nat → Env → St → Prop) (N : Nat)
    (step : ∀ i ρ σ, i < N → I i ρ σ → ∀ K : Ex → Env → St → Option R, (∀ ρ' σ', I (i + 1) ρ' σ' → K .normal ρ' σ' = X) → (∀ j, K (.exit j) = k (.exit j)) → K .ret = k .ret → B ρ σ K = X)
    (last : ∀ ρ σ, I N ρ σ → ∀ K : Ex → Env → St → Option R, (∀ j, K (.exit j) = k (.exit j)) → K .ret = k .ret → B ρ σ K = X) :
    ∀ (n i : Nat) (ρ : Env) (σ : St), i ≤ N → N < i + n → I i ρ σ → iterK B n ρ σ k = X
  | 0, i, ρ, σ, h1, h2, _ => by omega
  | n + 1, i, ρ, σ, h1, h2, hI => by
    have hx : ∀ j, (fun e ρ' σ' => @nx R e ⟨iterK B n ρ' σ' k⟩ ⟨k e ρ' σ'⟩) (Ex.exit j) = k (.exit j) := fun j => rfl
    have hr : (fun e ρ' σ' => @nx R e ⟨iterK B n ρ' σ' k⟩ ⟨k e ρ' σ'⟩) Ex.ret = k .ret := rfl
    by_cases hi : i < N
    · exact step i ρ σ hi hI _ (fun ρ' σ' hI' => iter_rule I N step last n (i + 1) ρ' σ' (by omega) (by omega) hI') hx hr
    · obtain rfl : i = N := by omega
      exact last ρ σ hI _ hx hr
end Go.Proofs.Ytjembadjfiohpaa.Va
