/- the machine's code, against the interpreter's -/
import Derived.Test.YticlihmbikcohaaVaY
import Derived.Tactics
namespace Go.Proofs.Yticlihmbikcohaa.Va
open Go Go.RowKit
set_option linter.unusedVariables false
set_option linter.unusedSimpArgs false
structure Rel (C : Cfg) (base : Nat) (c0 : Cx) (w0 : World) (N : Nat) (D : List Deferred) (c : Cx) (ρ : Env) (σ : St) (a : Act) (w : World) : Prop where
  env : RepEnv C.T c ρ a
  inv : Inv C.T base c σ w
  fwd : Fwd base c0 c w0 w
  defers : a.defers = D
  size : a.tmps.size = N
def exOf : Ex → Exit | .normal => .normal | .exit i => .exit i | .ret => .ret
def Post {R : Type} (C : Cfg) (base : Nat) (c0 : Cx) (w0 : World) (N : Nat) (D : List Deferred) (k : Ex → Env → St → Option R) (r : R) : Exit → Act → World → Prop :=
  fun e a w => ∃ e' ρ σ c, exOf e' = e ∧ k e' ρ σ = some r ∧ Rel C base c0 w0 N D c ρ σ a w
section
variable {P : Program} {C : Cfg} {call : Caller} {base : Nat} {c0 : Cx} {w0 : World} {N : Nat} {D : List Deferred} {R : Type} {r : R}
theorem put_rep {T : Tab} {c c' : Cx} {ρ : Env} {a : Act} (hE : RepEnv T c ρ a) (hx : Ext c c') {dst : Option Tmp} {v : AV} {y : Value} (hr : RepT T c' v y) (hd : ∀ d, dst = some d → d < a.tmps.size) : RepEnv T c' (putA ρ dst v) (a.put dst y) := by
  refine ⟨fun i => ?_, hE.2.ext hx⟩
  replace hE := hE.1
  cases dst with
  | none => exact (hE i).ext hx
  | some d =>
    have hd := hd d rfl
    simp only [putA, upd, Act.put]
    by_cases hi : i = d
    · subst hi
      simp [Array.getD_eq_getD_getElem?, hd]
      exact hr
    · rw [if_neg hi]
      have := (hE i).ext hx
      simp only [Array.getD_eq_getD_getElem?, Array.getElem?_setIfInBounds] at this ⊢
      rw [if_neg (fun e => hi e.symm)]
      exact this
theorem put_size (a : Act) (dst : Option Tmp) (y : Value) : (a.put dst y).tmps.size = a.tmps.size ∧ (a.put dst y).defers = a.defers := by cases dst <;> simp [Act.put]
theorem mk_unit {T : Tab} {c : Cx} : RepT T c (.tup []) undef := ⟨[], rfl, rfl, fun i v w hv => by simp at hv⟩
theorem Rel.put {c c' : Cx} {ρ : Env} {σ σ' : St} {a : Act} {w w' : World} (h : Rel C base c0 w0 N D c ρ σ a w) (hf : Fwd base c c' w w') (hI : Inv C.T base c' σ' w') {dst : Option Tmp} {v : AV} {y : Value} (hr : RepT C.T c' v y) (hd : ∀ d, dst = some d → d < N) :
    Rel C base c0 w0 N D c' (putA ρ dst v) σ' (a.put dst y) w' :=
  ⟨put_rep h.env hf.ext hr (by rw [h.size]; exact hd), hI, h.fwd.trans hf, (put_size a dst y).2.trans h.defers, (put_size a dst y).1.trans h.size⟩
theorem wanted_run {T : Tab} {c : Cx} {ops : Array Oper} {ρ : Env} {a : Act} (hE : RepEnv T c ρ a) {o : Oper} {t : Bool} (h : wantedA ops ρ o = some t) : Region.wanted o (yielded ops a.tmps) = t := by
  unfold wantedA at h
  unfold Region.wanted
  split at h
  · rename_i hg; rw [hg]; simpa using h
  · rename_i j want hg
    rw [hg]
    simp only
    split at h
    · rename_i hd
      have : yielded ops a.tmps j = none := by simp [yielded, hd]
      rw [this]; simpa using h
    · rename_i d hd
      have hv := hE.1 d
      split at h
      · rename_i b hb
        rw [hb] at hv
        have hv := rep_bool hv
        simp only [Option.some.injEq] at h
        have : a.tmps[d]? = some (.bool b) := by
          rw [Array.getD_eq_getD_getElem?] at hv
          cases hx : a.tmps[d]? with
          | none => rw [hx] at hv; simp [undef] at hv
          | some x => rw [hx] at hv; simp at hv; rw [hv]
        simp [yielded, hd, this, h]
      · rename_i vs hb
        rw [hb] at hv
        obtain ⟨ws, hw, _⟩ := rep_tup hv
        simp only [Option.some.injEq] at h
        have : yielded ops a.tmps j = none := by
          rw [Array.getD_eq_getD_getElem?] at hw
          unfold yielded
          simp only [hd, Option.bind_some]
          cases hx : a.tmps[d]? with
          | none => rfl
          | some x => rw [hx] at hw; simp at hw; rw [hw]
        rw [this]; simpa using h
      · cases h
def dstsOk (N : Nat) (ops : List Oper) : Prop := ∀ o ∈ ops, ∀ d, o.dst = some d → d < N
theorem ops_sound (hT : TabOk P C.T) (hC : CallOk P C call) {f : FuncId} {ops : Array Oper} {k : Ex → Env → St → Option R} : ∀ (l : List Oper) {c : Cx} {ρ : Env} {σ : St} {a : Act} {w : World}, dstsOk N l → evalOps C call f ops l ρ σ (k .normal) = some r → Rel C base c0 w0 N D c ρ σ a w →
    wpList P ops (Post C base c0 w0 N D k r) l a w
  | [], c, ρ, σ, a, w, _, h, hR => wpList_nil ⟨.normal, ρ, σ, c, rfl, h, hR⟩
  | o :: l, c, ρ, σ, a, w, hd, h, hR => by
    have hd0 : ∀ d, o.dst = some d → d < N := hd o (by simp)
    have hd1 : dstsOk N l := fun o' ho' => hd o' (by simp [ho'])
    simp only [evalOps, sel] at h
    refine wpList_step fun K hK => ?_
    cases hw : wantedA ops ρ o with
    | none => rw [hw] at h; cases h
    | some t =>
      rw [hw] at h
      rw [wanted_run hR.env hw]
      cases t with
      | true =>
        rw [if_pos rfl]
        cases he : evalOp C call f false ρ σ σ o with
        | none => simp only [he, bnd, Lz.get] at h; cases h
        | some p =>
          obtain ⟨v, σ'⟩ := p
          simp only [he, bnd, Lz.get, Kt.go] at h
          exact op_sound hT hC hR.env hR.inv (fun _ _ h => h) (fun _ => rfl) he (fun c' y w' h1 h2 h3 => hK _ _ (ops_sound hT hC l hd1 h (hR.put h1 h2 h3 hd0)))
      | false =>
        rw [if_neg (by simp)]
        simp only [Lz.get] at h
        exact hK _ _ (ops_sound hT hC l hd1 h (hR.put (.refl _ _ _) hR.inv mk_unit hd0))
def DrawOk (P : Program) (C : Cfg) (call : Caller) (f : FuncId) (base : Nat) (c0 : Cx) (w0 : World) (N : Nat) (D : List Deferred) (r : R) : Prop :=
  ∀ (id : Nat) (ops : Array Oper) (k : Ex → Env → St → Option R) (c : Cx) (ρ : Env) (σ : St) (a : Act) (w : World), dstsOk N ops.toList → (drawOk C f ops = true ∧ evalQ C call f ops σ ops.toList ρ σ (k .normal) = some r ∨ drawOkA C f ops = true ∧ evalQ C call f ops σ ops.toList ρ σ (fun ρ' σ' => @br R (aliasOk (aliasPairs ops) ρ') ⟨k .normal ρ' σ'⟩ ⟨none⟩) = some r ∨ drawOkF C f ops = true ∧ evalQ C call f ops σ ops.toList ρ σ (k .normal) = some r) → Rel C base c0 w0 N D c ρ σ a w →
    P.follows .mixedOrders = true ∧ wpAny P .any ops (Post C base c0 w0 N D k r) ops.size (Array.replicate ops.size false) a { w with drawn := w.drawn + 1 }
theorem loop_sound {x : Code} {B : Env → St → (Ex → Env → St → Option R) → Option R} {k : Ex → Env → St → Option R}
    (hx : ∀ (k : Ex → Env → St → Option R) {c : Cx} {ρ : Env} {σ : St} {a : Act} {w : World}, B ρ σ k = some r → Rel C base c0 w0 N D c ρ σ a w → x.wp P (Post C base c0 w0 N D k r) a w) :
    ∀ (n : Nat) {c : Cx} {ρ : Env} {σ : St} {a : Act} {w : World}, iterK B n ρ σ k = some r → Rel C base c0 w0 N D c ρ σ a w →
      ∀ (b : Frame) (kk : List Item) (cs : List Frame), ∃ e a' w', Post C base c0 w0 N D k r e a' w' ∧ Arrives P (lone (b.at a (.code x :: .inLoop x :: kk)) cs w) b kk cs e a' w'
  | 0, c, ρ, σ, a, w, h, _ => by cases h
  | n + 1, c, ρ, σ, a, w, h, hR => by
    intro b kk cs
    simp only [iterK] at h
    obtain ⟨e, a₁, w₁, ⟨e', ρ', σ', c', he, hk, hR'⟩, harr⟩ := hx _ h hR b (.inLoop x :: kk) cs
    subst he
    cases e' with
    | normal =>
      have hk : iterK B n ρ' σ' k = some r := hk
      obtain ⟨e₂, a₂, w₂, hq₂, harr₂⟩ := loop_sound hx n hk hR' b kk cs
      exact ⟨e₂, a₂, w₂, hq₂, .of_steps (Steps.trans harr (.one step_inLoop)) harr₂⟩
    | exit id => exact ⟨_, a₁, w₁, ⟨_, ρ', σ', c', rfl, hk, hR'⟩, .pass (x := .inLoop x) rfl (fun _ _ => .inl (by simp [exOf])) harr⟩
    | ret => exact ⟨_, a₁, w₁, ⟨_, ρ', σ', c', rfl, hk, hR'⟩, .pass (x := .inLoop x) rfl (fun _ _ => .inl (by simp [exOf])) harr⟩
theorem code_sound (hT : TabOk P C.T) (hC : CallOk P C call) {f : FuncId} (hD : DrawOk P C call f base c0 w0 N D r) : ∀ (x : Code) (k : Ex → Env → St → Option R) {c : Cx} {ρ : Env} {σ : St} {a : Act} {w : World}, dstOk N x = true → evalCode C call f x ρ σ k = some r → Rel C base c0 w0 N D c ρ σ a w →
    x.wp P (Post C base c0 w0 N D k r) a w
  | .skip, k, c, ρ, σ, a, w, _, h, hR => wp_skip ⟨.normal, ρ, σ, c, rfl, h, hR⟩
  | .region id ops draw, k, c, ρ, σ, a, w, hd, h, hR => by
    have hd' : dstsOk N ops.toList := fun o ho d hdo => by
      have := List.all_eq_true.1 hd o ho
      rw [hdo] at this
      simpa using this
    cases draw with
    | true =>
      have h : (if drawOk C f ops = true then evalQ C call f ops σ ops.toList ρ σ (k .normal) else if drawOkA C f ops = true then evalQ C call f ops σ ops.toList ρ σ (fun ρ' σ' => @br R (aliasOk (aliasPairs ops) ρ') ⟨k .normal ρ' σ'⟩ ⟨none⟩) else if drawOkF C f ops = true then evalQ C call f ops σ ops.toList ρ σ (k .normal) else none) = some r := h
      split at h
      · rename_i hok
        have hx := hD id ops k c ρ σ a w hd' (.inl ⟨hok, h⟩) hR
        exact wp_region_any hx.1 hx.2
      · split at h
        · rename_i hok
          have hx := hD id ops k c ρ σ a w hd' (.inr (.inl ⟨hok, h⟩)) hR
          exact wp_region_any hx.1 hx.2
        · split at h
          · rename_i hok
            have hx := hD id ops k c ρ σ a w hd' (.inr (.inr ⟨hok, h⟩)) hR
            exact wp_region_any hx.1 hx.2
          · cases h
    | false =>
      have h : evalOps C call f ops ops.toList ρ σ (k .normal) = some r := h
      exact wp_region_list (ops_sound hT hC _ hd' h hR)
  | .seq x y, k, c, ρ, σ, a, w, hd, h, hR => by
    simp only [dstOk, Bool.and_eq_true] at hd
    simp only [evalCode] at h
    refine wp_seq (wp_mono (code_sound hT hC hD x _ hd.1 h hR) fun e a' w' ⟨e', ρ', σ', c', he, hk, hR'⟩ => ?_)
    subst he
    cases e' with
    | normal => exact code_sound hT hC hD y k hd.2 hk hR'
    | exit id => exact ⟨_, ρ', σ', c', rfl, hk, hR'⟩
    | ret => exact ⟨_, ρ', σ', c', rfl, hk, hR'⟩
  | .cond cd x y, k, c, ρ, σ, a, w, hd, h, hR => by
    simp only [dstOk, Bool.and_eq_true] at hd
    simp only [evalCode, brV] at h
    split at h
    · rename_i t hv
      have hx := hR.env.val cd
      rw [hv] at hx
      have hx := rep_bool hx
      cases t with
      | true => exact wp_cond hx (code_sound hT hC hD x k hd.1 h hR)
      | false => exact wp_cond hx (code_sound hT hC hD y k hd.2 h hR)
    · cases h
  | .block id x, k, c, ρ, σ, a, w, hd, h, hR => by
    simp only [evalCode] at h
    refine wp_block (wp_mono (code_sound hT hC hD x _ hd h hR) fun e a' w' ⟨e', ρ', σ', c', he, hk, hR'⟩ => ?_)
    subst he
    cases e' with
    | normal => exact ⟨_, ρ', σ', c', rfl, hk, hR'⟩
    | exit i =>
      show (if i = id then Post C base c0 w0 N D k r .normal a' w' else Post C base c0 w0 N D k r (.exit i) a' w')
      have hk : k (if i = id then .normal else .exit i) ρ' σ' = some r := hk
      split at hk
      · rename_i hi
        rw [if_pos hi]; exact ⟨.normal, ρ', σ', c', rfl, hk, hR'⟩
      · rename_i hi
        rw [if_neg hi]; exact ⟨.exit i, ρ', σ', c', rfl, hk, hR'⟩
    | ret => exact ⟨_, ρ', σ', c', rfl, hk, hR'⟩
  | .loop x, k, c, ρ, σ, a, w, hd, h, hR => by
    simp only [evalCode] at h
    intro b kk cs
    obtain ⟨e, a', w', hq, harr⟩ := loop_sound (x := x) (fun k {c ρ σ a w} hB hR => code_sound hT hC hD x k hd hB hR) _ h hR b kk cs
    exact ⟨e, a', w', hq, .of_steps (.one step_loop) harr⟩
  | .exit id, k, c, ρ, σ, a, w, _, h, hR => wp_exit ⟨.exit id, ρ, σ, c, rfl, h, hR⟩
  | .ret, k, c, ρ, σ, a, w, _, h, hR => wp_ret ⟨.ret, ρ, σ, c, rfl, h, hR⟩
end
end Go.Proofs.Yticlihmbikcohaa.Va
