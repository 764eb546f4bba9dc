/- functions that only look: they come back in the state that was -/
import Derived.Test.YticlihmbikcohaaVaS
namespace Go.Proofs.Yticlihmbikcohaa.Va
open Go
set_option linter.unusedVariables false
set_option linter.unusedSimpArgs false
/-- An operation that turns nothing that was before. -/
def stillOp (C : Cfg) (f : FuncId) (o : Oper) : Bool :=
  match o.op with
  | .move _ | .assign _ | .nilCheck _ | .binOp .. | .unOp .. | .load .. | .fieldAddr .. | .field .. => true
  | .call c => (match c.callee with | .value (.func g) => C.peek g && !C.isVal g && !C.kills g && !rowO C f o | _ => false)
  | _ => false
def stillC (C : Cfg) (f : FuncId) : Code → Bool
  | .skip => true
  | .region _ ops draw => !draw && ops.toList.all (stillOp C f)
  | .seq a b => stillC C f a && stillC C f b
  | .cond _ a b => stillC C f a && stillC C f b
  | .block _ a => stillC C f a
  | .exit _ => true
  | .ret => true
  | _ => false
def stillF (P : Program) (C : Cfg) (f : FuncId) : Bool :=
  (C.ext f).isNone && !C.isVal f && C.keep f && (match P.funcs[f % 1000000]? with | some fn => (match fn.body with | some b => !hasR b && stillC C f b | none => false) | none => false)
def Stays (σ σ' : St) : Prop := ∀ i ob, σ.obj i = some ob → σ'.obj i = some ob
theorem Stays.refl (σ : St) : Stays σ σ := fun _ _ h => h
theorem Stays.trans {σ σ1 σ2 : St} (h : Stays σ σ1) (g : Stays σ1 σ2) : Stays σ σ2 := fun i ob ho => g i ob (h i ob ho)
def Still (C : Cfg) (call : Caller) : Prop := ∀ g, C.peek g = true → ∀ args σ v σ', call g args σ = some (v, σ') → Stays σ σ'
section
variable {C : Cfg} {call : Caller} {f : FuncId} {ρ : Env} {σ σ' : St} {v : AV} {ops : Array Oper} {R : Type}
theorem keeps_keep {x : Option AV} (h : keepS σ x = some (v, σ')) : Stays σ σ' := by
  cases x with
  | none => cases h
  | some y => simp only [keepS, Option.some.injEq, Prod.mk.injEq] at h; rw [h.2]; exact .refl _
theorem still_op (hS : Still C call) {o : Oper} (h0 : stillOp C f o = true) (h : evalOp C call f false ρ σ σ o = some (v, σ')) : Stays σ σ' := by
  obtain ⟨d, op, ty, pos, af, gd⟩ := o
  cases op with
  | move x => simp only [evalOp, Option.some.injEq, Prod.mk.injEq] at h; rw [h.2]; exact .refl _
  | assign x => simp only [evalOp, Option.some.injEq, Prod.mk.injEq] at h; rw [h.2]; exact .refl _
  | nilCheck x => exact keeps_keep h
  | binOp => exact keeps_keep h
  | unOp => exact keeps_keep h
  | load => exact keeps_keep h
  | fieldAddr => exact keeps_keep h
  | field => exact keeps_keep h
  | call c =>
    obtain ⟨callee, args, tys⟩ := c
    cases callee with
    | value x =>
      cases x with
      | func g =>
        simp only [stillOp, Bool.and_eq_true, Bool.not_eq_true'] at h0
        obtain ⟨⟨⟨h1, h2⟩, h3⟩, h4⟩ := h0
        simp only [evalOp, val, h4, h2, Bool.false_eq_true, if_false, callNv, h3] at h
        split at h
        · exact hS g h1 _ _ _ _ h
        · cases h
      | _ => simp [stillOp] at h0
    | _ => simp [stillOp] at h0
  | _ => simp [stillOp] at h0
theorem still_ops (hS : Still C call) : ∀ (l : List Oper) {ρ : Env} {σ : St} {k : Env → St → Option R} {r : R}, l.all (stillOp C f) = true → evalOps C call f ops l ρ σ k = some r → ∃ ρ' σ', k ρ' σ' = some r ∧ Stays σ σ'
  | [], ρ, σ, k, r, _, h => ⟨ρ, σ, h, .refl _⟩
  | o :: l, ρ, σ, k, r, h0, h => by
    simp only [List.all_cons, Bool.and_eq_true] at h0
    unfold evalOps at h
    cases hw : wantedA ops ρ o with
    | none => rw [hw] at h; cases h
    | some b =>
      rw [hw] at h
      cases b with
      | false => exact still_ops hS l h0.2 h
      | true =>
        rw [sel_true] at h
        cases he : evalOp C call f false ρ σ σ o with
        | none => rw [he] at h; cases h
        | some p =>
          rw [he, bnd_some] at h
          obtain ⟨ρ', σ', h1, h2⟩ := still_ops hS l h0.2 h
          exact ⟨ρ', σ', h1, (still_op hS h0.1 (v := p.1) (σ' := p.2) he).trans h2⟩
theorem still_code (hS : Still C call) : ∀ (x : Code) {ρ : Env} {σ : St} {k : Ex → Env → St → Option R} {r : R}, stillC C f x = true → evalCode C call f x ρ σ k = some r → ∃ e ρ' σ', k e ρ' σ' = some r ∧ Stays σ σ'
  | .skip, ρ, σ, k, r, _, h => ⟨.normal, ρ, σ, h, .refl _⟩
  | .region id ops draw, ρ, σ, k, r, h0, h => by
    simp only [stillC, Bool.and_eq_true, Bool.not_eq_true'] at h0
    obtain ⟨rfl, h0⟩ := h0
    obtain ⟨ρ', σ', h1, h2⟩ := still_ops hS _ h0 (show evalOps C call f ops ops.toList ρ σ (k .normal) = some r from h)
    exact ⟨.normal, ρ', σ', h1, h2⟩
  | .seq a b, ρ, σ, k, r, h0, h => by
    simp only [stillC, Bool.and_eq_true] at h0
    obtain ⟨e, ρ', σ', h1, h2⟩ := still_code hS a h0.1 (show evalCode C call f a ρ σ (fun e ρ' σ' => @nx R e ⟨evalCode C call f b ρ' σ' k⟩ ⟨k e ρ' σ'⟩) = some r from h)
    cases e with
    | normal =>
      obtain ⟨e2, ρ2, σ2, h3, h4⟩ := still_code hS b h0.2 h1
      exact ⟨e2, ρ2, σ2, h3, h2.trans h4⟩
    | exit i => exact ⟨_, ρ', σ', h1, h2⟩
    | ret => exact ⟨_, ρ', σ', h1, h2⟩
  | .cond c a b, ρ, σ, k, r, h0, h => by
    simp only [stillC, Bool.and_eq_true] at h0
    have h : @brV R (val ρ c) ⟨evalCode C call f a ρ σ k⟩ ⟨evalCode C call f b ρ σ k⟩ = some r := h
    cases hv : val ρ c with
    | bool t =>
      rw [hv] at h
      cases t with
      | true => exact still_code hS a h0.1 h
      | false => exact still_code hS b h0.2 h
    | _ => rw [hv] at h; cases h
  | .block id a, ρ, σ, k, r, h0, h => by
    obtain ⟨e, ρ', σ', h1, h2⟩ := still_code hS a (show stillC C f a = true from h0) (show evalCode C call f a ρ σ (fun e ρ' σ' => k (blk id e) ρ' σ') = some r from h)
    exact ⟨_, ρ', σ', h1, h2⟩
  | .exit i, ρ, σ, k, r, _, h => ⟨.exit i, ρ, σ, h, .refl _⟩
  | .ret, ρ, σ, k, r, _, h => ⟨.ret, ρ, σ, h, .refl _⟩
theorem still_F {P : Program} (hP : ∀ f, C.peek f = true → stillF P C f = true) (d : Nat) (ih : Still C (evalF P C d)) : Still C (evalF P C (d + 1)) := by
  intro f hf args σ v σ' h
  have h0 := hP f hf
  simp only [stillF, Bool.and_eq_true, Bool.not_eq_true', Option.isNone_iff_eq_none] at h0
  obtain ⟨⟨⟨hx, hv⟩, hk⟩, hb⟩ := h0
  unfold evalF at h
  rw [hx] at h
  simp only at h
  split at hb
  rotate_left
  · cases hb
  rename_i fn hfn
  rw [hfn] at h
  simp only at h
  split at hb
  rotate_left
  · cases hb
  rename_i body hbd
  rw [hbd] at h
  simp only [Bool.and_eq_true, Bool.not_eq_true'] at hb
  simp only at h
  split at h
  rotate_left
  · cases h
  rw [hb.1] at h
  simp only [Bool.false_eq_true, if_false] at h
  obtain ⟨e, ρ', σ1, h1, h2⟩ := still_code ih body hb.2 h
  have key : retR C f fn.results.toList σ ρ' σ1 = some (v, σ') → Stays σ σ' := fun hq => by
    unfold retR at hq
    cases ha : aResults C.T ρ' σ1 fn.results.toList with
    | none => rw [ha] at hq; cases hq
    | some r =>
      rw [ha, bnd_some, hv, br_false] at hq
      simp only [hk, if_true, Option.some.injEq, Prod.mk.injEq] at hq
      rw [← hq.2]
      exact h2
  cases e with
  | normal => exact key h1
  | ret => exact key h1
  | exit i => cases h1
theorem still_0 (P : Program) : Still C (evalF P C 0) := by
  intro f hf args σ v σ' h
  cases h
end
end Go.Proofs.Yticlihmbikcohaa.Va
