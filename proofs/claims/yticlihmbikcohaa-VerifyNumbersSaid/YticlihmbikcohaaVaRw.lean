/- rules by which a walk goes on through loops over functions -/
import Derived.Test.YticlihmbikcohaaVaWp
namespace Go.Proofs.Yticlihmbikcohaa.Va
open Go
set_option linter.unusedVariables false
set_option linter.unusedSimpArgs false
section
variable {R : Type} (P : Program) (C : Cfg) (call : Caller) (f : FuncId) (ρ : Env) (σ : St)
@[go_sem ↓] theorem R_seq (a b : Code) (k : Ex → Env → St → Option R) : evalR P C call f (.seq a b) ρ σ k = evalR P C call f a ρ σ fun e ρ' σ' => @nx R e ⟨evalR P C call f b ρ' σ' k⟩ ⟨k e ρ' σ'⟩ := nr rfl
@[go_sem ↓] theorem R_cond (c : Operand) (a b : Code) (k : Ex → Env → St → Option R) : evalR P C call f (.cond c a b) ρ σ k = @brV R (val ρ c) ⟨evalR P C call f a ρ σ k⟩ ⟨evalR P C call f b ρ σ k⟩ := nr rfl
@[go_sem ↓] theorem R_block (id : Nat) (a : Code) (k : Ex → Env → St → Option R) : evalR P C call f (.block id a) ρ σ k = evalR P C call f a ρ σ fun e ρ' σ' => k (blk id e) ρ' σ' := nr rfl
@[go_sem ↓] theorem R_loop (a : Code) (k : Ex → Env → St → Option R) : evalR P C call f (.loop a) ρ σ k = iterK (fun ρ σ k => evalR P C call f a ρ σ k) C.M ρ σ k := nr rfl
@[go_sem ↓] theorem R_skip (k : Ex → Env → St → Option R) : evalR P C call f .skip ρ σ k = k .normal ρ σ := nr rfl
@[go_sem ↓] theorem R_region (id : Nat) (ops : Array Oper) (d : Bool) (k : Ex → Env → St → Option R) : evalR P C call f (.region id ops d) ρ σ k = evalCode C call f (.region id ops d) ρ σ k := nr rfl
@[go_sem ↓] theorem R_exit (id : Nat) (k : Ex → Env → St → Option R) : evalR P C call f (.exit id) ρ σ k = k (.exit id) ρ σ := nr rfl
@[go_sem ↓] theorem R_ret (k : Ex → Env → St → Option R) : evalR P C call f .ret ρ σ k = k .ret ρ σ := nr rfl
theorem R_range {P : Program} {C : Cfg} {call : Caller} {f : FuncId} {ρ : Env} {σ : St} {g : Operand} {ps : Array Tmp} {assign body : Code} {k : Ex → Env → St → Option R} {gf : FuncId} {caps : List AV} {fn : Func} {fb : Code} (hv : val ρ g = .func gf caps) (hf : iterFn P gf = some (fn, fb))
    (hok : (dstOk fn.ntmps fb && decide (caps.length + 1 ≤ fn.ntmps) && fn.name != "runtime.NumGoroutine" && fn.results.isEmpty && plainR assign && plainR body) = true) :
    evalR P C call f (.rangeFunc g ps assign body) ρ σ k = evalY C call gf (roundK C call f ps assign body ρ) fb (entryEnv (.undef :: caps)) σ none (backK k ρ) := by
  simp only [evalR, hv, hf, hok, if_true]
variable (rd : Rnd R) (p : Option Ex)
@[go_sem ↓] theorem Y_skip (k : Ex → Env → St → Option Ex → Option R) : evalY C call f rd .skip ρ σ p k = k .normal ρ σ p := nr rfl
@[go_sem ↓] theorem Y_region (id : Nat) (ops : Array Oper) (k : Ex → Env → St → Option Ex → Option R) : evalY C call f rd (.region id ops false) ρ σ p k = evalOpsY C call f ops rd [0] ops.toList ρ σ p (k .normal) := nr rfl
@[go_sem ↓] theorem Y_seq (a b : Code) (k : Ex → Env → St → Option Ex → Option R) : evalY C call f rd (.seq a b) ρ σ p k = evalY C call f rd a ρ σ p fun e ρ' σ' p' => @nx R e ⟨evalY C call f rd b ρ' σ' p' k⟩ ⟨k e ρ' σ' p'⟩ := nr rfl
@[go_sem ↓] theorem Y_cond (c : Operand) (a b : Code) (k : Ex → Env → St → Option Ex → Option R) : evalY C call f rd (.cond c a b) ρ σ p k = @brV R (val ρ c) ⟨evalY C call f rd a ρ σ p k⟩ ⟨evalY C call f rd b ρ σ p k⟩ := nr rfl
@[go_sem ↓] theorem Y_block (id : Nat) (a : Code) (k : Ex → Env → St → Option Ex → Option R) : evalY C call f rd (.block id a) ρ σ p k = evalY C call f rd a ρ σ p fun e ρ' σ' p' => k (blk id e) ρ' σ' p' := nr rfl
@[go_sem ↓] theorem Y_loop (a : Code) (k : Ex → Env → St → Option Ex → Option R) : evalY C call f rd (.loop a) ρ σ p k = iterY (fun ρ σ p k => evalY C call f rd a ρ σ p k) C.M ρ σ p k := nr rfl
@[go_sem ↓] theorem Y_exit (id : Nat) (k : Ex → Env → St → Option Ex → Option R) : evalY C call f rd (.exit id) ρ σ p k = k (.exit id) ρ σ p := nr rfl
@[go_sem ↓] theorem Y_ret (k : Ex → Env → St → Option Ex → Option R) : evalY C call f rd .ret ρ σ p k = k .ret ρ σ p := nr rfl
variable (ops : Array Oper) (Y : List Tmp)
@[go_sem ↓] theorem opsY_nil (k : Env → St → Option Ex → Option R) : evalOpsY C call f ops rd Y [] ρ σ p k = k ρ σ p := nr rfl
@[go_sem ↓] theorem opsY_cons (o : Oper) (rest : List Oper) (k : Env → St → Option Ex → Option R) : evalOpsY C call f ops rd Y (o :: rest) ρ σ p k =
    @br R (dstY Y o) ⟨@br R (mvY Y o) ⟨evalOpsY C call f ops rd (o.dst.toList ++ Y) rest (putA ρ o.dst .undef) σ p k⟩
      ⟨@br R (clY Y o) ⟨@br R p.isNone ⟨rd ((argsY o).map (val ρ)) σ fun e σ' => @nx R e ⟨evalOpsY C call f ops rd Y rest (putA ρ o.dst (.bool true)) σ' none k⟩ ⟨evalOpsY C call f ops rd Y rest (putA ρ o.dst (.bool false)) σ' (some e) k⟩⟩ ⟨none⟩⟩
        ⟨@sel R (wantedA ops ρ o) ⟨@bnd2 R (evalOp C call f false ρ σ σ o) ⟨fun v s => evalOpsY C call f ops rd Y rest (putA ρ o.dst v) s p k⟩⟩ ⟨evalOpsY C call f ops rd Y rest (putA ρ o.dst (.tup [])) σ p k⟩⟩⟩⟩ ⟨none⟩ := by
  rw [bnd2_of]; rfl
attribute [go_sem] dstY mvY clY argsY Option.isNone_none Option.isNone_some Option.toList_none Option.toList_some
@[go_sem ↓] theorem roundK_go (ps : Array Tmp) (assign body : Code) (args : List AV) (kk : Ex → St → Option R) : roundK C call f ps assign body ρ args σ kk =
    @br R (decide (args.length = ps.size)) ⟨evalCode C call f assign (putPs ρ ps.toList args) σ fun e ρ1 σ1 => @nx R e ⟨evalCode C call f body ρ1 σ1 fun e _ σ2 => kk e σ2⟩ ⟨none⟩⟩ ⟨none⟩ := nr rfl
@[go_sem ↓] theorem putPs_one (t : Tmp) (a : AV) : putPs ρ [t] [a] = upd ρ t a := nr rfl
@[go_sem ↓] theorem backK_normal (k : Ex → Env → St → Option R) (ρ' : Env) : backK k ρ .normal ρ' σ p = nextK k ρ σ p := nr rfl
@[go_sem ↓] theorem backK_ret (k : Ex → Env → St → Option R) (ρ' : Env) : backK k ρ .ret ρ' σ p = nextK k ρ σ p := nr rfl
@[go_sem ↓] theorem nextK_none (k : Ex → Env → St → Option R) : nextK k ρ σ none = k .normal ρ σ := nr rfl
@[go_sem ↓] theorem nextK_some (k : Ex → Env → St → Option R) (e : Ex) : nextK k ρ σ (some e) = k e ρ σ := nr rfl
end
section
variable {R : Type} (C : Cfg) (f : FuncId) (q : Bool) (mr m : Mem) (dst : Option Tmp) (k : AV → St → Option R)
@[go_sem ↓] theorem ev_min2 (tys : List TypeId) (kd : IntKind) (a b : Int) : @bnd2 R (@evalBuiltin C f q mr m dst .min tys [.int kd a, .int kd b]) ⟨k⟩ = k (.int kd (min a b)) m.st := by
  simp only [evalBuiltin, aMinMax, aMinMax.go, keepS, if_true, Bool.false_eq_true, if_false, bnd2_some]
  congr 2
  by_cases h : b < a
  · rw [if_pos h]; omega
  · rw [if_neg h]; omega
@[go_sem ↓] theorem ev_max2 (tys : List TypeId) (kd : IntKind) (a b : Int) : @bnd2 R (@evalBuiltin C f q mr m dst .max tys [.int kd a, .int kd b]) ⟨k⟩ = k (.int kd (max a b)) m.st := by
  simp only [evalBuiltin, aMinMax, aMinMax.go, keepS, if_true, bnd2_some]
  congr 2
  by_cases h : b > a
  · rw [if_pos h]; omega
  · rw [if_neg h]; omega
end
end Go.Proofs.Yticlihmbikcohaa.Va
