/- regions that draw their order, against the interpreter's -/
import Derived.Test.YticlihmbikcohaaVaF
namespace Go.Proofs.Yticlihmbikcohaa.Va
open Go Go.RowKit
set_option linter.unusedVariables false
set_option linter.unusedSimpArgs false
section
variable {C : Cfg} {call : Caller} {f : FuncId} {q : Bool} {ρ ρ1 ρ2 : Env} {σ σr σ' : St} {o : Oper} {v : AV} {ops : Array Oper}
theorem touch_any (h : touches o = false) (σ1 σ2 σ : St) : evalOp C call f q ρ σ1 σ o = evalOp C call f q ρ σ2 σ o := by
  obtain ⟨d, op, ty, pos, af, gd⟩ := o
  cases op <;> first | rfl | (simp [touches] at h; done) | (rename_i g _ _; cases g <;> rfl)
theorem keep_any {x : Option AV} (h : keepS σ x = some (v, σ')) : σ' = σ ∧ ∀ σ2, keepS σ2 x = some (v, σ2) := by
  obtain ⟨h1, h2⟩ := keep_some h
  simp only at h1 h2
  subst h2
  refine ⟨rfl, fun σ2 => ?_⟩
  rw [h1]; rfl
theorem quiet_any (hm : makes C f o = false) (h : evalOp C call f true ρ σr σ o = some (v, σ')) : σ' = σ ∧ ∀ σ2, evalOp C call f true ρ σr σ2 o = some (v, σ2) := by
  simp only [makes, Bool.or_eq_false_iff] at hm
  obtain ⟨hm1, hm2⟩ := hm
  obtain ⟨d, op, ty, pos, af, gd⟩ := o
  have rq : ∀ {x : AV}, some (x, σ) = some (v, σ') → σ' = σ ∧ x = v := fun h => by
    simp only [Option.some.injEq, Prod.mk.injEq] at h
    exact ⟨h.2.symm, h.1⟩
  cases op with
  | move x => obtain ⟨rfl, rfl⟩ := rq h; exact ⟨rfl, fun σ2 => rfl⟩
  | assign x => obtain ⟨rfl, rfl⟩ := rq h; exact ⟨rfl, fun σ2 => rfl⟩
  | pick x y z =>
    simp only [evalOp] at h ⊢
    split at h
    · obtain ⟨rfl, rfl⟩ := rq h; exact ⟨rfl, fun σ2 => rfl⟩
    · cases h
  | alloc e => simp at hm2
  | box e x => simp at hm2
  | build t parts => exact keep_any h
  | buildSlice t n parts =>
    simp only at hm2
    simp only [evalOp] at h ⊢
    split at h
    · rename_i e ht
      split at h
      · rename_i hn
        obtain ⟨xs, hf, h⟩ := Option.bind_eq_some_iff.1 h
        rw [hm2, if_neg (by simp)] at h
        split at h
        · rename_i hp
          obtain ⟨rfl, rfl⟩ := rq h
          refine ⟨rfl, fun σ2 => ?_⟩
          rw [if_pos hn]
          exact Option.bind_eq_some_iff.2 ⟨xs, hf, by rw [hm2, if_neg (by simp), if_pos hp]⟩
        · cases h
      · cases h
    · cases h
  | load t x => exact keep_any h
  | store t x y => simp [turns] at hm1
  | nilCheck x => exact keep_any h
  | binOp op t x y u => exact keep_any h
  | unOp op t x => exact keep_any h
  | convert s d x => exact keep_any h
  | makeFunc g first caps =>
    cases g with
    | func g =>
      simp only [evalOp] at h ⊢
      split at h
      · rename_i hc
        obtain ⟨rfl, rfl⟩ := rq h
        exact ⟨rfl, fun σ2 => by rw [if_pos hc]⟩
      · cases h
    | _ => exact absurd h (by simp [evalOp])
  | makeMap t r => simp at hm2
  | lookup t x i ok => exact keep_any h
  | mapUpdate t x i v => simp [turns] at hm1
  | insert t x i v => simp [turns] at hm1
  | makeSlice t l cp =>
    simp only at hm2
    simp only [evalOp] at h ⊢
    split at h
    · rename_i e k1 n k2 m ht hl hcp
      split at h
      · rename_i hn
        rw [hm2, if_neg (by simp)] at h
        split at h
        · rename_i hp
          obtain ⟨rfl, rfl⟩ := rq h
          refine ⟨rfl, fun σ2 => ?_⟩
          rw [if_pos hn, hm2, if_neg (by simp), if_pos hp]
        · cases h
      · cases h
    · cases h
  | slice t x lo hi mx => exact keep_any h
  | fieldAddr t x i => exact keep_any h
  | field t x i => exact keep_any h
  | indexAddr t x i => exact keep_any h
  | index t x i => exact keep_any h
  | extract x i =>
    simp only [evalOp] at h ⊢
    split at h
    · exact keep_any h
    · cases h
  | call cl =>
    obtain ⟨callee, args, tys⟩ := cl
    cases callee with
    | builtin b =>
      simp only at hm2
      simp only [evalOp] at h ⊢
      unfold evalBuiltin at h
      split at h
      · rename_i t x htys hargs
        obtain ⟨h1, h2⟩ := keep_any h
        refine ⟨h1, fun σ2 => ?_⟩
        simp only [evalBuiltin, htys, hargs]
        exact h2 σ2
      · simp at hm2
      · simp [turns] at hm1
      · simp [turns] at hm1
      · obtain ⟨h1, h2⟩ := keep_any h
        refine ⟨h1, fun σ2 => ?_⟩
        simp only [evalBuiltin]
        exact h2 σ2
      · obtain ⟨h1, h2⟩ := keep_any h
        refine ⟨h1, fun σ2 => ?_⟩
        simp only [evalBuiltin]
        exact h2 σ2
      · cases h
    | value g =>
      simp only [evalOp] at h ⊢
      split at h
      · rename_i g' caps hv
        split at h
        rotate_left
        · cases h
        rename_i hlt
        split at h
        · simp at h
        rename_i hrw
        split at h
        · rename_i hgV
          split at h
          · rename_i hcm
            unfold callCalm at h
            split at h
            · rename_i hcc
              obtain ⟨us, hu, h⟩ := Option.bind_eq_some_iff.1 h
              obtain ⟨p, hc, h⟩ := Option.bind_eq_some_iff.1 h
              split at h
              · rename_i hn
                obtain ⟨rfl, rfl⟩ := rq h
                refine ⟨rfl, fun σ2 => ?_⟩
                rw [if_pos hlt, if_neg hrw, if_pos hgV, if_pos hcm]
                unfold callCalm
                rw [if_pos hcc]
                exact Option.bind_eq_some_iff.2 ⟨us, hu, Option.bind_eq_some_iff.2 ⟨p, hc, by rw [if_pos hn]; rfl⟩⟩
              · cases h
            · cases h
          rename_i hcm
          unfold callVal at h
          split at h
          · rename_i hnp
            obtain ⟨us, hu, h⟩ := Option.bind_eq_some_iff.1 h
            obtain ⟨p, hc, h⟩ := Option.bind_eq_some_iff.1 h
            split at h
            · rename_i hn
              obtain ⟨rfl, rfl⟩ := rq h
              refine ⟨rfl, fun σ2 => ?_⟩
              rw [if_pos hlt, if_neg hrw, if_pos hgV, if_neg hcm]
              unfold callVal
              rw [if_pos hnp]
              exact Option.bind_eq_some_iff.2 ⟨us, hu, Option.bind_eq_some_iff.2 ⟨p, hc, by rw [if_pos hn]; rfl⟩⟩
            · simp at h
          · rename_i hnp
            split at h
            · rename_i t id path rest hargs
              obtain ⟨u, hx, h⟩ := Option.bind_eq_some_iff.1 h
              obtain ⟨us, hu, h⟩ := Option.bind_eq_some_iff.1 h
              obtain ⟨p, hc, h⟩ := Option.bind_eq_some_iff.1 h
              split at h
              · rename_i hn
                obtain ⟨rfl, rfl⟩ := rq h
                refine ⟨rfl, fun σ2 => ?_⟩
                rw [if_pos hlt, if_neg hrw, if_pos hgV, if_neg hcm]
                unfold callVal
                rw [if_neg hnp, hargs]
                exact Option.bind_eq_some_iff.2 ⟨u, hx, Option.bind_eq_some_iff.2 ⟨us, hu, Option.bind_eq_some_iff.2 ⟨p, hc, by rw [if_pos hn]; rfl⟩⟩⟩
              · cases h
            · rename_i ta t id path fs rest hargs
              obtain ⟨u, hx, h⟩ := Option.bind_eq_some_iff.1 h
              obtain ⟨gs, hgs, h⟩ := Option.bind_eq_some_iff.1 h
              obtain ⟨us, hu, h⟩ := Option.bind_eq_some_iff.1 h
              obtain ⟨p, hc, h⟩ := Option.bind_eq_some_iff.1 h
              split at h
              · rename_i hn
                obtain ⟨rfl, rfl⟩ := rq h
                refine ⟨rfl, fun σ2 => ?_⟩
                rw [if_pos hlt, if_neg hrw, if_pos hgV, if_neg hcm]
                unfold callVal
                rw [if_neg hnp, hargs]
                exact Option.bind_eq_some_iff.2 ⟨u, hx, Option.bind_eq_some_iff.2 ⟨gs, hgs, Option.bind_eq_some_iff.2 ⟨us, hu, Option.bind_eq_some_iff.2 ⟨p, hc, by rw [if_pos hn]; rfl⟩⟩⟩⟩
              · cases h
            · cases h
        · simp at h
      · cases h
    | invoke r n => exact absurd h (by simp [evalOp])
  | _ => exact absurd h (by simp [evalOp])
theorem mono_op (hS : Still C call) (hm : turns C f o = false) (hnv : nvA C f ρ o = true) (h : evalOp C call f false ρ σ σ o = some (v, σ')) (hn : ∀ id ob, σ.obj id = some ob → id < σ.next) : ∀ id ob, σ.obj id = some ob → makes C f o = true → σ'.obj id = some ob := by
  intro id ob ho hmk
  have hnew : ∀ x, (σ.new x).obj id = some ob := fun x => by
    have := hn id ob ho
    simp only [St.new]
    rw [if_neg (by omega)]; exact ho
  obtain ⟨d, op, ty, pos, af, gd⟩ := o
  simp only [makes, hm, Bool.false_or] at hmk
  cases op <;> first | (simp at hmk; done) | skip
  · simp only [evalOp] at h
    split at h
    · simp only [Option.some.injEq, Prod.mk.injEq] at h; obtain ⟨rfl, rfl⟩ := h; exact hnew _
    · cases h
  · simp only [evalOp] at h
    split at h
    · simp only [Option.some.injEq, Prod.mk.injEq] at h; obtain ⟨rfl, rfl⟩ := h; exact hnew _
    · cases h
  · simp only [evalOp] at h
    split at h
    · split at h
      · obtain ⟨xs, hf, h⟩ := Option.bind_eq_some_iff.1 h
        try rw [if_pos (by simpa using hmk)] at h
        try rw [if_neg (by simp)] at h
        simp only [Option.some.injEq, Prod.mk.injEq] at h; obtain ⟨rfl, rfl⟩ := h; exact hnew _
      · cases h
    · cases h
  · rename_i t r
    cases r with
    | none =>
      simp only [evalOp] at h
      split at h
      · simp only [Option.some.injEq, Prod.mk.injEq] at h; obtain ⟨rfl, rfl⟩ := h; exact hnew _
      · cases h
    | some r => simp [evalOp] at h
  · simp only [evalOp] at h
    split at h
    · split at h
      · try rw [if_pos (by simpa using hmk)] at h
        try rw [if_neg (by simp)] at h
        simp only [Option.some.injEq, Prod.mk.injEq] at h; obtain ⟨rfl, rfl⟩ := h; exact hnew _
      · cases h
    · cases h
  · rename_i cl
    obtain ⟨callee, args, tys⟩ := cl
    cases callee with
    | builtin b =>
      cases b <;> first | (simp at hmk; done) | skip
      simp only [evalOp, evalBuiltin] at h
      split at h
      · exact absurd ‹Builtin.append = Builtin.len› (by simp)
      · split at h
        · cases h
        · split at h
          · simp only [Bool.false_eq_true, if_false] at h
            unfold aAppend at h
            split at h
            · split at h
              · obtain ⟨ys, hy, h⟩ := Option.bind_eq_some_iff.1 h
                generalize rowD C f d = row at h
                split at h
                rotate_left
                · cases h
                cases row with
                | true =>
                  rw [if_pos rfl] at h
                  by_cases he : ys.isEmpty = true
                  · rw [if_pos he] at h; cases h
                  · rw [if_neg he] at h
                    simp only [Option.some.injEq, Prod.mk.injEq] at h; obtain ⟨rfl, rfl⟩ := h; exact hnew _
                | false =>
                  rw [if_neg (by simp)] at h
                  simp only [Option.some.injEq, Prod.mk.injEq] at h; obtain ⟨rfl, rfl⟩ := h; exact ho
              · obtain ⟨ys, hy, h⟩ := Option.bind_eq_some_iff.1 h
                split at h
                · split at h
                  · simp only [Option.some.injEq, Prod.mk.injEq] at h; obtain ⟨rfl, rfl⟩ := h; exact hnew _
                  · simp only [Option.some.injEq, Prod.mk.injEq] at h; obtain ⟨rfl, rfl⟩ := h; exact ho
                · cases h
              · obtain ⟨ys, hy, h⟩ := Option.bind_eq_some_iff.1 h
                split at h
                · simp only [Option.some.injEq, Prod.mk.injEq] at h; obtain ⟨rfl, rfl⟩ := h; exact ho
                · cases h
              · cases h
            · cases h
          · cases h
      · exact absurd ‹Builtin.append = Builtin.delete› (by simp)
      · exact absurd ‹Builtin.append = Builtin.clear› (by simp)
      · exact absurd ‹Builtin.append = Builtin.min› (by simp)
      · exact absurd ‹Builtin.append = Builtin.max› (by simp)
      · cases h
    | value g =>
      cases g with
      | func g =>
        have hro : rowO C f ⟨d, .call ⟨.value (.func g), args, tys⟩, ty, pos, af, gd⟩ = false := by
          simp only [turns, Bool.or_eq_false_iff] at hm
          exact hm.1
        have hnv : viewIdsL (args.toList.map (val ρ)) = [] := by
          simp only [nvA, hm, Bool.false_or] at hnv
          simpa using hnv
        simp only [evalOp, val] at h
        split at h
        rotate_left
        · cases h
        rw [hro, if_neg (by simp)] at h
        rw [List.append_nil] at h
        by_cases hV : C.isVal g = true
        rotate_left
        · have hpk : C.peek g = true := by
            cases hx : C.peek g with
            | true => rfl
            | false => simp [turns, hx, hV] at hm
          rw [if_neg hV, if_neg (by simp)] at h
          unfold callNv at h
          split at h
          · obtain ⟨us, hu, h⟩ := Option.bind_eq_some_iff.1 h
            rw [hnv] at h
            exact hS g hpk _ _ _ _ h id ob ho
          · exact hS g hpk _ _ _ _ h id ob ho
        rw [if_pos hV] at h
        rw [if_neg (by simp)] at h
        unfold callVal at h
        split at h
        rotate_left
        · split at h
          · obtain ⟨u, hx, h⟩ := Option.bind_eq_some_iff.1 h
            obtain ⟨us, hu, h⟩ := Option.bind_eq_some_iff.1 h
            obtain ⟨p, hc, h⟩ := Option.bind_eq_some_iff.1 h
            split at h
            · simp only [Option.some.injEq, Prod.mk.injEq] at h; obtain ⟨rfl, rfl⟩ := h; exact ho
            · cases h
          · obtain ⟨u, hx, h⟩ := Option.bind_eq_some_iff.1 h
            obtain ⟨gs, hgs, h⟩ := Option.bind_eq_some_iff.1 h
            obtain ⟨us, hu, h⟩ := Option.bind_eq_some_iff.1 h
            obtain ⟨p, hc, h⟩ := Option.bind_eq_some_iff.1 h
            split at h
            · simp only [Option.some.injEq, Prod.mk.injEq] at h; obtain ⟨rfl, rfl⟩ := h; exact ho
            · cases h
          · cases h
        obtain ⟨us, hu, h⟩ := Option.bind_eq_some_iff.1 h
        obtain ⟨p, hc, h⟩ := Option.bind_eq_some_iff.1 h
        have hσ : ∀ {x : AV} {σ2 : St}, retok1 p.2 σ x = some (v, σ2) → σ2.obj id = some ob := by
          intro x σ2 hx
          unfold retok1 at hx
          split at hx
          · split at hx
            · simp only [Option.some.injEq, Prod.mk.injEq] at hx; obtain ⟨rfl, rfl⟩ := hx; exact ho
            · cases hx
          · split at hx
            · simp only [Option.some.injEq, Prod.mk.injEq] at hx; obtain ⟨rfl, rfl⟩ := hx; exact ho
            · cases hx
        have hσ' : ∀ {x y : AV} {σ2 : St}, retok1 p.2 σ x = some (y, σ2) → σ2.obj id = some ob := by
          intro x y σ2 hx
          unfold retok1 at hx
          split at hx
          · split at hx
            · simp only [Option.some.injEq, Prod.mk.injEq] at hx; obtain ⟨rfl, rfl⟩ := hx; exact ho
            · cases hx
          · split at hx
            · simp only [Option.some.injEq, Prod.mk.injEq] at hx; obtain ⟨rfl, rfl⟩ := hx; exact ho
            · cases hx
        split at h
        · simp only [Option.some.injEq, Prod.mk.injEq] at h; obtain ⟨rfl, rfl⟩ := h; exact ho
        · rw [if_neg (by simp), hnv] at h
          simp only [killAll] at h
          unfold retok at h
          split at h
          · split at h
            · obtain ⟨q, hq, h⟩ := Option.map_eq_some_iff.1 h
              simp only [Prod.mk.injEq] at h
              obtain ⟨rfl, rfl⟩ := h
              exact hσ' (x := _) (y := q.1) (σ2 := q.2) hq
            · cases h
          · exact hσ h
      | _ => simp [turns] at hm
    | invoke r n => simp at hmk
theorem val_same (h : ∀ t ∈ o.looksAt ops, ρ1 t = ρ2 t) : ∀ x ∈ o.op.operands, val ρ1 x = val ρ2 x := by
  intro x hx
  cases x with
  | tmp t => exact h t (by unfold Oper.looksAt; exact List.mem_append_left _ (List.mem_filterMap.2 ⟨.tmp t, by simpa using hx, rfl⟩))
  | _ => rfl
theorem wanted_same (h : ∀ t ∈ o.looksAt ops, ρ1 t = ρ2 t) : wantedA ops ρ1 o = wantedA ops ρ2 o := by
  unfold wantedA
  split
  · rfl
  · rename_i j want hg
    cases hd : (ops[j]?).bind (·.dst) with
    | none => rfl
    | some t =>
      have : ρ1 t = ρ2 t := h t (by unfold Oper.looksAt; refine List.mem_append_right _ ?_; simp [hg, hd])
      simp only [this]
theorem eval_same (h : ∀ t ∈ o.looksAt ops, ρ1 t = ρ2 t) : evalOp C call f q ρ1 σr σ o = evalOp C call f q ρ2 σr σ o := by
  have hv := val_same h
  obtain ⟨d, op, ty, pos, af, gd⟩ := o
  simp only at hv
  have hmap : ∀ (l : List Operand), (∀ x ∈ l, val ρ1 x = val ρ2 x) → l.map (val ρ1) = l.map (val ρ2) := fun l hl => List.map_congr_left hl
  cases op with
  | build t ps =>
    have e : (ps.toList.map fun (i, x) => (i, val ρ1 x)) = (ps.toList.map fun (i, x) => (i, val ρ2 x)) := List.map_congr_left fun p hp => by show (p.1, val ρ1 p.2) = (p.1, val ρ2 p.2); rw [hv p.2 (by simp only [Op.operands]; simpa using ⟨p.1, by simpa using hp⟩)]
    simp only [evalOp, e]
  | buildSlice t n ps =>
    have e : (ps.toList.map fun (i, x) => (i, val ρ1 x)) = (ps.toList.map fun (i, x) => (i, val ρ2 x)) := List.map_congr_left fun p hp => by show (p.1, val ρ1 p.2) = (p.1, val ρ2 p.2); rw [hv p.2 (by simp only [Op.operands]; simpa using ⟨p.1, by simpa using hp⟩)]
    simp only [evalOp, e]
  | makeFunc g first caps =>
    have e := hmap caps.toList (fun x hx => hv x (by simp only [Op.operands]; exact Array.mem_append_right _ (by simpa using hx)))
    have e2 : (caps.toList.all fun x => capOk (val ρ1 x)) = (caps.toList.all fun x => capOk (val ρ2 x)) := by
      rw [Bool.eq_iff_iff, List.all_eq_true, List.all_eq_true]
      constructor
      · intro hh x hx; rw [← hv x (by simp only [Op.operands]; exact Array.mem_append_right _ (by simpa using hx))]; exact hh x hx
      · intro hh x hx; rw [hv x (by simp only [Op.operands]; exact Array.mem_append_right _ (by simpa using hx))]; exact hh x hx
    cases g <;> simp only [evalOp, e, e2]
  | call cl =>
    have e := hmap cl.args.toList (fun x hx => hv x (by simp only [Op.operands, Call.operands]; exact Array.mem_append_right _ (by simpa using hx)))
    obtain ⟨callee, args, tys⟩ := cl
    cases callee with
    | value g =>
      have e2 := hv g (by simp [Op.operands, Call.operands])
      simp only at e
      simp only [evalOp, e, e2]
    | builtin b => simp only at e; simp only [evalOp, e]
    | invoke r n => simp only [evalOp]
  | slice t x lo hi mx =>
    have e0 := hv x (by simp [Op.operands])
    have e1 : lo.map (val ρ1) = lo.map (val ρ2) := by cases lo <;> first | rfl | (simp only [Option.map_some]; rw [hv _ (by simp [Op.operands])])
    have e2 : hi.map (val ρ1) = hi.map (val ρ2) := by cases hi <;> first | rfl | (simp only [Option.map_some]; rw [hv _ (by simp [Op.operands])])
    have e3 : mx.map (val ρ1) = mx.map (val ρ2) := by cases mx <;> first | rfl | (simp only [Option.map_some]; rw [hv _ (by simp [Op.operands])])
    simp only [evalOp, e0, e1, e2, e3]
  | pick x y z => simp only [evalOp, hv x (by simp [Op.operands]), hv y (by simp [Op.operands]), hv z (by simp [Op.operands])]
  | store t x y => simp only [evalOp, hv x (by simp [Op.operands]), hv y (by simp [Op.operands])]
  | binOp op t x y u => simp only [evalOp, hv x (by simp [Op.operands]), hv y (by simp [Op.operands])]
  | makeSlice t x y => simp only [evalOp, hv x (by simp [Op.operands]), hv y (by simp [Op.operands]), rowO]
  | indexAddr t x y => simp only [evalOp, hv x (by simp [Op.operands]), hv y (by simp [Op.operands])]
  | index t x y => simp only [evalOp, hv x (by simp [Op.operands]), hv y (by simp [Op.operands])]
  | move x => simp only [evalOp, hv x (by simp [Op.operands])]
  | assign x => simp only [evalOp, hv x (by simp [Op.operands])]
  | box e x => simp only [evalOp, hv x (by simp [Op.operands])]
  | load t x => simp only [evalOp, hv x (by simp [Op.operands])]
  | nilCheck x => simp only [evalOp, hv x (by simp [Op.operands])]
  | unOp op t x => simp only [evalOp, hv x (by simp [Op.operands])]
  | convert s t x => simp only [evalOp, hv x (by simp [Op.operands])]
  | fieldAddr t x i => simp only [evalOp, hv x (by simp [Op.operands])]
  | field t x i => simp only [evalOp, hv x (by simp [Op.operands])]
  | lookup t x i ok => simp only [evalOp, hv x (by simp [Op.operands]), hv i (by simp [Op.operands])]
  | mapUpdate t x i v => simp only [evalOp, hv x (by simp [Op.operands]), hv i (by simp [Op.operands]), hv v (by simp [Op.operands])]
  | insert t x i v => simp only [evalOp, hv x (by simp [Op.operands]), hv i (by simp [Op.operands]), hv v (by simp [Op.operands])]
  | makeMap t r => cases r <;> rfl
  | extract x i => simp only [evalOp, hv x (by simp [Op.operands])]
  | _ => simp only [evalOp]
end
end Go.Proofs.Yticlihmbikcohaa.Va
