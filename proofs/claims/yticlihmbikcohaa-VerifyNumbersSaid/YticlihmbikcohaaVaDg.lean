/- regions that draw and make two variables, against the interpreter's -/
import Derived.Test.YticlihmbikcohaaVaDf
namespace Go.Proofs.Yticlihmbikcohaa.Va
open Go Go.RowKit
set_option linter.unusedVariables false
set_option linter.unusedSimpArgs false
section
variable {P : Program} {C : Cfg} {call : Caller} {f : FuncId} {R : Type} {r : R} {ops : Array Oper} {base N : Nat} {D : List Deferred} {c0 : Cx} {w0 : World}
structure FF (C : Cfg) (f : FuncId) (ops : Array Oper) (da db : Tmp) : Prop where
  sz : 4 ≤ ops.size
  b2a : ((Region.before ops).getD (ops.size - 4 + 2) 0).testBit (ops.size - 4) = true
  b2b : ((Region.before ops).getD (ops.size - 4 + 2) 0).testBit (ops.size - 4 + 1) = true
  b3a : ((Region.before ops).getD (ops.size - 4 + 3) 0).testBit (ops.size - 4) = true
  b3b : ((Region.before ops).getD (ops.size - 4 + 3) 0).testBit (ops.size - 4 + 1) = true
  edge : ∀ (i : Nat) (o : Oper), ops[i]? = some o → ∀ e ∈ o.after.toList, e.on < i ∨ Region.binds .any e = false
  quiet : ∀ (i : Nat) (o : Oper), ops[i]? = some o → i < ops.size - 4 → makes C f o = false ∧ da ∉ o.looksAt ops ∧ db ∉ o.looksAt ops
  dst : ∀ (i j : Nat) (o o' : Oper) (d : Tmp), ops[i]? = some o → ops[j]? = some o' → o.dst = some d → o'.dst = some d → i = j
  look : ∀ (i j : Nat) (o o' : Oper) (d : Tmp), ops[i]? = some o → ops[j]? = some o' → o'.dst = some d → d ∈ o.looksAt ops → (j < i ∧ ((Region.before ops).getD i 0).testBit j = true) ∨ (i < j ∧ ((Region.before ops).getD j 0).testBit i = true)
theorem ff_of {da db : Tmp} {ea eb : TypeId} {va vb : Operand} (hf : freshF ops = some (da, ea, va, db, eb, vb)) (h : drawOkF C f ops = true) : FF C f ops da db := by
  unfold drawOkF at h
  rw [hf] at h
  simp only [Bool.and_eq_true, decide_eq_true_eq] at h
  obtain ⟨⟨⟨⟨⟨h1, h2⟩, h3⟩, h4⟩, h5⟩, h6⟩ := h
  have key : ∀ (i : Nat) (o : Oper), ops[i]? = some o → (∀ e ∈ o.after.toList, e.on < i ∨ Region.binds .any e = false) ∧ (i < ops.size - 4 → makes C f o = false ∧ da ∉ o.looksAt ops ∧ db ∉ o.looksAt ops) ∧ ∀ (j : Nat) (o' : Oper), ops[j]? = some o' →
      ∀ d, o'.dst = some d → (i = j ∨ o.dst ≠ some d) ∧ (d ∈ o.looksAt ops → (j < i ∧ ((Region.before ops).getD i 0).testBit j = true) ∨ (i < j ∧ ((Region.before ops).getD j 0).testBit i = true)) := by
    intro i o ho
    have g1 := List.all_eq_true.1 h6 (o, i) (zip_mem ho)
    simp only [Bool.and_eq_true] at g1
    obtain ⟨⟨g1, g2⟩, g3⟩ := g1
    refine ⟨fun e he => ?_, fun hi => ?_, fun j o' ho' d hd => ?_⟩
    · have := List.all_eq_true.1 g1 e he
      simpa using this
    · simp only [Bool.or_eq_true, decide_eq_true_eq, Bool.and_eq_true, Bool.not_eq_true', List.contains_eq_mem, decide_eq_false_iff_not] at g2
      rcases g2 with g2 | ⟨⟨g2, g4⟩, g5⟩
      · omega
      · exact ⟨g2, g4, g5⟩
    · have ha := List.all_eq_true.1 g3 (o', j) (zip_mem ho')
      simp only at ha
      rw [hd] at ha
      simp only [Bool.and_eq_true, Bool.or_eq_true, decide_eq_true_eq, bne_iff_ne, ne_eq, Bool.not_eq_true', List.contains_eq_mem, decide_eq_false_iff_not] at ha
      refine ⟨ha.1, fun hdl => ?_⟩
      rcases ha.2 with (hn | hn) | hn
      · exact absurd hdl hn
      · exact .inl hn
      · exact .inr hn
  exact ⟨h1, h2, h3, h4, h5, fun i o ho => (key i o ho).1, fun i o ho => (key i o ho).2.1, fun i j o o' d ho ho' hd hd' => ((key i o ho).2.2 j o' ho' d hd').1.resolve_right (fun hn => hn hd), fun i j o o' d ho ho' hd' hl => ((key i o ho).2.2 j o' ho' d hd').2 hl⟩
theorem looks_store {o : Oper} {t : TypeId} {x v : Operand} (h : o.op = .store t x v) {s : Tmp} (hs : tmpOf v = some s) : s ∈ o.looksAt ops := by
  cases v <;> first | (cases hs; done) | skip
  simp only [tmpOf, Option.some.injEq] at hs
  subst hs
  simp [Oper.looksAt, h, Op.operands]
theorem drawF_run (hT : TabOk P C.T) (hm : P.follows .mixedOrders = true) (hC : CallOk P C call) (hG : GlobOk C.T c0) {k : Ex → Env → St → Option R} {c : Cx} {ρ : Env} {σ : St} {a : Act} {w : World} (hd : dstsOk N ops.toList) (hok : drawOkF C f ops = true)
    (h : evalQ C call f ops σ ops.toList ρ σ (k .normal) = some r) (hR : Rel C base c0 w0 N D c ρ σ a w) : wpAny P .any ops (Post C base c0 w0 N D k r) ops.size (Array.replicate ops.size false) a { w with drawn := w.drawn + 1 } := by
  obtain ⟨da, ea, va, db, eb, vb, hf⟩ : ∃ da ea va db eb vb, freshF ops = some (da, ea, va, db, eb, vb) := by
    cases hx : freshF ops with
    | none => unfold drawOkF at hok; rw [hx] at hok; cases hok
    | some q => obtain ⟨a, b, c, d, e, g⟩ := q; exact ⟨a, b, c, d, e, g, rfl⟩
  have hF := ff_of hf hok
  obtain ⟨oa, ob, sa, sb, ha, hb, hsa, hsb, ⟨a1, a2, a3⟩, ⟨b1, b2, b3⟩, ⟨s1, s2, s3⟩, ⟨t1, t2, t3⟩, hne, n1, n2, n3, n4⟩ := freshF_spec hf
  obtain ⟨ρs, σs, vs, bs, e0, s0, b0, hk, hst⟩ := traceQ ops.toList σ ρ σ h
  rw [Array.length_toList] at hk
  have hsz := hF.sz
  have hput : ∀ i o, ops.toList[i]? = some o → ρs (i + 1) = putA (ρs i) o.dst (vs i) := fun i o ho => (hst i o ho).1.2
  have henv := env_dst hF.dst e0 hput
  have hstep0 : ∀ i o, ops[i]? = some o → StepQ C call f ops (bs i) (ρs i) (σs i) o (vs i) (σs (i + 1)) ∧ bs (i + 1) = if turns C f o = true then σs (i + 1) else bs i := fun i o ho => ⟨(hst i o (by rw [Array.getElem?_toList]; exact ho)).1.1, (hst i o (by rw [Array.getElem?_toList]; exact ho)).2⟩
  -- ahead of the two, nothing turns
  have hq : ∀ i, i ≤ ops.size - 4 → σs i = σ ∧ bs i = σ := by
    intro i
    induction i with
    | zero => exact fun _ => ⟨s0, b0⟩
    | succ i ih =>
      intro hi
      obtain ⟨i1, i2⟩ := ih (by omega)
      have ho : ops[i]? = some ops[i] := Array.getElem?_eq_getElem (by omega)
      obtain ⟨q1, q2⟩ := hstep0 i _ ho
      have hmk := (hF.quiet i _ ho (by omega)).1
      have ht : turns C f ops[i] = false := by
        cases ht : turns C f ops[i] with
        | false => rfl
        | true => rw [turns_makes ht] at hmk; cases hmk
      refine ⟨?_, by rw [q2, ht]; exact i2⟩
      rcases q1 with ⟨_, ⟨g, _, _⟩ | ⟨_, g⟩⟩ | ⟨_, _, g⟩
      · rw [hmk] at g; cases g
      · exact (quiet_any hmk g).1.trans i1
      · exact g.trans i1
  -- the two, and the stores
  have want : ∀ {o : Oper} {ρ : Env}, o.guard = none → wantedA ops ρ o = some true := fun hg => by unfold wantedA; rw [hg]
  have hA : fits C.T ea (C.T.zero ea) = true ∧ vs (ops.size - 4) = .ptr ea σ.next [0] ∧ σs (ops.size - 4 + 1) = σ.new (.cells ea [C.T.zero ea]) := by
    have q := (hstep0 _ _ ha).1
    rcases q with ⟨_, ⟨_, _, g⟩ | ⟨g, _⟩⟩ | ⟨g, _⟩
    · rw [(hq _ (Nat.le_refl _)).1] at g
      simp only [evalOp, a1] at g
      split at g
      · rename_i hz
        simp only [Option.some.injEq, Prod.mk.injEq] at g
        exact ⟨hz, g.1.symm, g.2.symm⟩
      · cases g
    · simp [makes, turns, a1] at g
    · rw [want a3] at g; cases g
  obtain ⟨fa, va1, sa1⟩ := hA
  have hB : fits C.T eb (C.T.zero eb) = true ∧ vs (ops.size - 4 + 1) = .ptr eb (σ.next + 1) [0] ∧ σs (ops.size - 4 + 2) = (σ.new (.cells ea [C.T.zero ea])).new (.cells eb [C.T.zero eb]) := by
    have q := (hstep0 _ _ hb).1
    rcases q with ⟨_, ⟨_, _, g⟩ | ⟨g, _⟩⟩ | ⟨g, _⟩
    · rw [sa1] at g
      simp only [evalOp, b1] at g
      split at g
      · rename_i hz
        simp only [Option.some.injEq, Prod.mk.injEq] at g
        exact ⟨hz, g.1.symm, g.2.symm⟩
      · cases g
    · simp [makes, turns, b1] at g
    · rw [want b3] at g; cases g
  obtain ⟨fb, vb1, sb1⟩ := hB
  have ea2 : ρs (ops.size - 4 + 2) da = .ptr ea σ.next [0] := ((henv (ops.size - 4 + 2) da (by omega)).1 _ _ ha a2 (by omega)).trans va1
  have eb3 : ρs (ops.size - 4 + 3) db = .ptr eb (σ.next + 1) [0] := ((henv (ops.size - 4 + 3) db (by omega)).1 _ _ hb b2 (by omega)).trans vb1
  have hSA : fits C.T ea (val (ρs (ops.size - 4 + 2)) va) = true ∧ σs (ops.size - 4 + 3) = ((σ.new (.cells ea [C.T.zero ea])).new (.cells eb [C.T.zero eb])).set σ.next (.cells ea [val (ρs (ops.size - 4 + 2)) va]) := by
    have q := (hstep0 _ _ hsa).1
    rcases q with ⟨_, ⟨_, _, g⟩ | ⟨g, _⟩⟩ | ⟨g, _⟩
    · rw [sb1] at g
      simp only [evalOp, s1, Bool.false_eq_true, if_false, val, ea2] at g
      cases hx : @aStore C.T ⟨(σ.new (.cells ea [C.T.zero ea])).new (.cells eb [C.T.zero eb])⟩ ea (.ptr ea σ.next [0]) (val (ρs (ops.size - 4 + 2)) va) with
      | none => simp only [val] at hx; rw [hx] at g; cases g
      | some σ' =>
        have hx0 := hx
        simp only [val] at hx
        rw [hx] at g
        simp only [Option.map_some, Option.some.injEq, Prod.mk.injEq] at g
        simp only [aStore] at hx0
        split at hx0
        · rename_i hs
          simp only [Bool.and_eq_true] at hs
          have ho1 : ((σ.new (.cells ea [C.T.zero ea])).new (.cells eb [C.T.zero eb])).obj σ.next = some (.cells ea [C.T.zero ea]) := by
            simp [St.new]
          rw [ho1] at hx0
          have hp0 : rowPut [C.T.zero ea] [0] (val (ρs (ops.size - 4 + 2)) va) = some [val (ρs (ops.size - 4 + 2)) va] := by
            simp only [rowPut, List.getElem?_cons_zero]
            cases C.T.zero ea <;> simp [AV.put]
          simp only [hp0, Option.map_some, Option.some.injEq] at hx0
          exact ⟨hs.2, by rw [← g.2, ← hx0]⟩
        · cases hx0
    · simp [makes, turns, s1] at g
    · rw [want s3] at g; cases g
  obtain ⟨fva, sc1⟩ := hSA
  have hSB : fits C.T eb (val (ρs (ops.size - 4 + 3)) vb) = true ∧ σs (ops.size - 4 + 4) = (((σ.new (.cells ea [C.T.zero ea])).new (.cells eb [C.T.zero eb])).set σ.next (.cells ea [val (ρs (ops.size - 4 + 2)) va])).set (σ.next + 1) (.cells eb [val (ρs (ops.size - 4 + 3)) vb]) := by
    have q := (hstep0 _ _ hsb).1
    rcases q with ⟨_, ⟨_, _, g⟩ | ⟨g, _⟩⟩ | ⟨g, _⟩
    · rw [sc1] at g
      generalize hS : ((σ.new (.cells ea [C.T.zero ea])).new (.cells eb [C.T.zero eb])).set σ.next (.cells ea [val (ρs (ops.size - 4 + 2)) va]) = S at g ⊢
      simp only [evalOp, t1, Bool.false_eq_true, if_false, val, eb3] at g
      cases hx : @aStore C.T ⟨S⟩ eb (.ptr eb (σ.next + 1) [0]) (val (ρs (ops.size - 4 + 3)) vb) with
      | none => simp only [val] at hx; rw [hx] at g; cases g
      | some σ' =>
        have hx0 := hx
        simp only [val] at hx
        rw [hx] at g
        simp only [Option.map_some, Option.some.injEq, Prod.mk.injEq] at g
        simp only [aStore] at hx0
        split at hx0
        · rename_i hs
          simp only [Bool.and_eq_true] at hs
          have ho1 : S.obj (σ.next + 1) = some (.cells eb [C.T.zero eb]) := by
            subst hS
            simp [St.new, St.set]
          rw [ho1] at hx0
          have hp0 : rowPut [C.T.zero eb] [0] (val (ρs (ops.size - 4 + 3)) vb) = some [val (ρs (ops.size - 4 + 3)) vb] := by
            simp only [rowPut, List.getElem?_cons_zero]
            cases C.T.zero eb <;> simp [AV.put]
          simp only [hp0, Option.map_some, Option.some.injEq] at hx0
          exact ⟨hs.2, by rw [← g.2, ← hx0]⟩
        · cases hx0
    · simp [makes, turns, t1] at g
    · rw [want t3] at g; cases g
  obtain ⟨fvb, sd1⟩ := hSB
  have hend : σs ops.size = (σ.new (.cells ea [val (ρs (ops.size - 4 + 2)) va])).new (.cells eb [val (ρs (ops.size - 4 + 3)) vb]) := by
    rw [show ops.size = ops.size - 4 + 4 by omega, sd1]
    simp only [St.new, St.set, St.mk.injEq, and_true, true_and]
    rw [show ops.size - 4 + 4 - 4 = ops.size - 4 by omega]
    funext i
    by_cases h1 : i = σ.next + 1
    · subst h1; simp
    · by_cases h2 : i = σ.next
      · subst h2; simp
      · simp [h1, h2]
  generalize hva : val (ρs (ops.size - 4 + 2)) va = VA at *
  generalize hvb : val (ρs (ops.size - 4 + 3)) vb = VB at *
  obtain ⟨dA, tyA⟩ : ∃ d, C.T.ty ea = some d := by
    cases hh : C.T.ty ea with
    | none => rw [hT.no ea hh] at fa; simp [fits] at fa
    | some d => exact ⟨d, rfl⟩
  obtain ⟨dB, tyB⟩ : ∃ d, C.T.ty eb = some d := by
    cases hh : C.T.ty eb with
    | none => rw [hT.no eb hh] at fb; simp [fits] at fb
    | some d => exact ⟨d, rfl⟩
  have hfalse : ∀ j, (Array.replicate ops.size false).getD j false = false := fun j => by
    rw [Array.getD_eq_getD_getElem?, Array.getElem?_replicate]; split <;> rfl
  have nl : ∀ {j : Nat} {p : Prop}, (Array.replicate ops.size false).getD j false = true → p := fun h => by rw [hfalse] at h; cases h
  refine any_run (J := fun listed a w' => ∃ c', FInv C ops base c0 w0 N D da ea VA db eb VB w.heap.size ρ σ vs listed c' a w') (fun _ _ _ ⟨_, h⟩ => h.size) ?_ ?_ ops.size _ a _ (by simp)
    ⟨c, by simp, fun _ _ _ h => nl h, fun j o d _ _ h => nl h, fun t _ => hR.env.1 t, hR.inv.heap rfl, hR.fwd.trans ⟨.refl _, (Below.refl _ _).drew, fun _ _ _ => rfl, fun _ _ => rfl⟩, Nat.le_refl _, hR.defers, hR.size, fun h => nl h, fun h => nl h, fun h => nl h⟩
  · -- the end
    rintro listed aa w2 ⟨c2, hI⟩ hr
    have hall := all_listed hI.size hF.edge hr
    obtain ⟨BA, csA, pA, lA, gA, zA, rA⟩ := hI.A (hall _ (by omega))
    obtain ⟨BB, csB, pB, lB, gB, zB, rB⟩ := hI.B (hall _ (by omega))
    have hneB : BA ≠ BB := fun e => hI.ne (hall _ (by omega)) (hall _ (by omega)) (by rw [pA, pB, e])
    have hbase : base ≤ w.heap.size := hR.inv.le
    have hw0 := hR.fwd.below.size
    have i1 := hI.inv.adopt (by omega) gA ⟨dA, tyA⟩ (rA (hall _ (by omega)))
    have gB' : (c2.adopt ea BA).G BB = some (.cells csB.toArray eb (0, 0)) := (if_neg (fun e => hneB e.symm)).trans gB
    have i2 := i1.adopt (by omega) gB' ⟨dB, tyB⟩ ((rB (hall _ (by omega))).ext (.adopt _ _ _))
    have f2 := (hI.fwd.adopt (show w0.heap.size ≤ BA by omega) ea).adopt (show w0.heap.size ≤ BB by omega) eb
    have hx2 : Ext c2 ((c2.adopt ea BA).adopt eb BB) := (Ext.adopt _ _ _).trans (.adopt _ _ _)
    refine ⟨.normal, ρs ops.size, σs ops.size, _, rfl, hk, ⟨fun t => ?_, hG.ext f2.ext⟩, by rw [hend]; exact i2, f2, hI.defers, hI.tmps⟩
    obtain ⟨h1, h2⟩ := henv ops.size t (Nat.le_refl _)
    have hnx := hI.inv.next
    by_cases hta : t = da
    · subst hta
      rw [h1 _ _ ha a2 (by omega), va1, pA]
      have hm1 : ((c2.adopt ea BA).adopt eb BB).μ σ.next = BA := by
        rw [← hnx]
        exact (if_neg (by show c2.next ≠ c2.next + 1; omega)).trans (if_pos rfl)
      have he1 : ((c2.adopt ea BA).adopt eb BB).ε σ.next = ea := by
        rw [← hnx]
        exact (if_neg (by show c2.next ≠ c2.next + 1; omega)).trans (if_pos rfl)
      have := RepV.ptr (T := C.T) ((c2.adopt ea BA).adopt eb BB) ea σ.next [0] 0 (by rw [← hnx]; show c2.next < c2.next + 1 + 1; omega) (by rw [he1]; simp [Tab.loc, Tab.sub])
      rw [hm1] at this
      exact ⟨.ptr, this, rfl⟩
    · by_cases htb : t = db
      · subst htb
        rw [h1 _ _ hb b2 (by omega), vb1, pB]
        have hm1 : ((c2.adopt ea BA).adopt eb BB).μ (σ.next + 1) = BB := by
          rw [← hnx]
          exact if_pos rfl
        have he1 : ((c2.adopt ea BA).adopt eb BB).ε (σ.next + 1) = eb := by
          rw [← hnx]
          exact if_pos rfl
        have := RepV.ptr (T := C.T) ((c2.adopt ea BA).adopt eb BB) eb (σ.next + 1) [0] 0 (by rw [← hnx]; show c2.next + 1 < c2.next + 1 + 1; omega) (by rw [he1]; simp [Tab.loc, Tab.sub])
        rw [hm1] at this
        exact ⟨.ptr, this, rfl⟩
      · by_cases hx : ∃ (j : Nat) (o : Oper), ops[j]? = some o ∧ o.dst = some t
        · obtain ⟨j, o, ho, hd'⟩ := hx
          have hj : j < ops.size := (Array.getElem?_eq_some_iff.1 ho).1
          rw [h1 j o ho hd' hj]
          have hjp : j < ops.size - 4 := by
            rcases Nat.lt_or_ge j (ops.size - 4) with h | h
            · exact h
            · exfalso
              have : j = ops.size - 4 ∨ j = ops.size - 4 + 1 ∨ j = ops.size - 4 + 2 ∨ j = ops.size - 4 + 3 := by omega
              rcases this with rfl | rfl | rfl | rfl
              · rw [ha] at ho; cases ho; rw [a2] at hd'; cases hd'; exact hta rfl
              · rw [hb] at ho; cases ho; rw [b2] at hd'; cases hd'; exact htb rfl
              · rw [hsa] at ho; cases ho; rw [s2] at hd'; cases hd'
              · rw [hsb] at ho; cases ho; rw [t2] at hd'; cases hd'
          exact (hI.env1 j o t hjp ho (hall j hj) hd').ext hx2
        · rw [h2 fun j (o : Oper) ho _ hd' => hx ⟨j, o, ho, hd'⟩]
          exact (hI.env2 t fun j (o : Oper) ho _ hd' => hx ⟨j, o, ho, hd'⟩).ext hx2
  · -- a step
    rintro listed aa w2 i K ⟨c2, hI⟩ hi hK
    unfold Region.ready at hi
    obtain ⟨hi1, hi2⟩ := List.mem_filter.1 hi
    have hlt : i < ops.size := List.mem_range.1 hi1
    have ho : ops[i]? = some ops[i] := Array.getElem?_eq_getElem hlt
    generalize hoo : ops[i] = o at ho
    simp only [Bool.and_eq_true, Bool.not_eq_true'] at hi2
    obtain ⟨hi2, hi3⟩ := hi2
    rw [ho] at hi3
    simp only [Option.map_some, Option.getD_some, Array.all_eq_true_iff_forall_mem] at hi3
    have hnl : listed.getD i false = false := by
      have : listed.getD i true = listed.getD i false := by
        simp only [Array.getD_eq_getD_getElem?]
        rw [Array.getElem?_eq_getElem (by rw [hI.size]; exact hlt)]; rfl
      rw [← this]; exact hi2
    have hedge : ∀ e ∈ o.after.toList, Region.binds .any e = true → listed.getD e.on false = true := fun e he hb => by
      have := hi3 e (by simpa using he)
      simpa [hb] using this
    have hbef : ∀ {j : Nat}, ((Region.before ops).getD i 0).testBit j = true → listed.getD j false = true := fun h => before_listed (L := fun j => listed.getD j false = true) hI.closed i ho hedge h
    have hls := fun k => listed_set listed i k (by rw [hI.size]; exact hlt)
    have hd0 : ∀ d, o.dst = some d → d < N := hd o (by rw [← hoo]; exact Array.getElem_mem_toList hlt)
    have hda : da < N := hd oa (by rw [List.mem_iff_getElem?]; exact ⟨_, by rw [Array.getElem?_toList]; exact ha⟩) da a2
    have hdb : db < N := hd ob (by rw [List.mem_iff_getElem?]; exact ⟨_, by rw [Array.getElem?_toList]; exact hb⟩) db b2
    have hdsta : ∀ j o', ops[j]? = some o' → o'.dst = some da → j = ops.size - 4 := fun j o' ho' hd' => hF.dst j _ o' oa da ho' ha hd' a2
    have hdstb : ∀ j o', ops[j]? = some o' → o'.dst = some db → j = ops.size - 4 + 1 := fun j o' ho' hd' => hF.dst j _ o' ob db ho' hb hd' b2
    -- the environment that is
    have hEx : da ∉ o.looksAt ops ∨ True → ∃ ρL : Env, RepEnv C.T c2 ρL aa ∧ ∀ t ∈ o.looksAt ops, t ≠ da → t ≠ db → ρs i t = ρL t := by
      intro _
      refine ⟨fun t => (Classical.propDecidable (∃ (j : Nat) (o' : Oper), ops[j]? = some o' ∧ listed.getD j false = true ∧ o'.dst = some t)).casesOn (fun _ => ρ t) (fun h => if h.choose < ops.size - 4 then vs h.choose else .undef), ⟨fun t => ?_, hG.ext hI.fwd.ext⟩, fun t ht hna hnb => ?_⟩
      · simp only
        cases Classical.propDecidable (∃ (j : Nat) (o' : Oper), ops[j]? = some o' ∧ listed.getD j false = true ∧ o'.dst = some t) with
        | isTrue h =>
          obtain ⟨o', h1, h2, h3⟩ := h.choose_spec
          simp only
          split
          · rename_i hlt'
            exact hI.env1 _ o' t hlt' h1 h2 h3
          · trivial
        | isFalse h => exact hI.env2 t fun j o' h1 h2 h3 => h ⟨j, o', h1, h2, h3⟩
      · obtain ⟨g1, g2⟩ := henv i t (Nat.le_of_lt hlt)
        simp only
        cases Classical.propDecidable (∃ (j : Nat) (o' : Oper), ops[j]? = some o' ∧ listed.getD j false = true ∧ o'.dst = some t) with
        | isTrue h =>
          obtain ⟨o', h1, h2, h3⟩ := h.choose_spec
          simp only
          have hjs : h.choose < ops.size := (Array.getElem?_eq_some_iff.1 h1).1
          have hjp : h.choose < ops.size - 4 := by
            rcases Nat.lt_or_ge h.choose (ops.size - 4) with h' | h'
            · exact h'
            · exfalso
              generalize h.choose = j at h1 h2 h' hjs
              have : j = ops.size - 4 ∨ j = ops.size - 4 + 1 ∨ j = ops.size - 4 + 2 ∨ j = ops.size - 4 + 3 := by omega
              rcases this with rfl | rfl | rfl | rfl
              · rw [ha] at h1; cases h1; rw [a2] at h3; cases h3; exact hna rfl
              · rw [hb] at h1; cases h1; rw [b2] at h3; cases h3; exact hnb rfl
              · rw [hsa] at h1; cases h1; rw [s2] at h3; cases h3
              · rw [hsb] at h1; cases h1; rw [t2] at h3; cases h3
          rw [if_pos hjp]
          rcases hF.look i _ o o' t ho h1 h3 ht with hq' | hq'
          · exact g1 _ o' h1 h3 hq'.1
          · have := before_listed (L := fun j => listed.getD j false = true) hI.closed _ h1 (hI.closed _ o' h1 h2) hq'.2
            exact absurd this (by rw [hnl]; simp)
        | isFalse h =>
          exact g2 fun j o' h1 h2 h3 => (hF.look i j o o' t ho h1 h3 ht).elim (fun hq' => h ⟨j, o', h1, hbef hq'.2, h3⟩) (fun hq' => absurd hq'.1 (by omega))
    obtain ⟨ρL, hEL, hsame⟩ := hEx (.inr trivial)
    have hclosed : ∀ k o', ops[k]? = some o' → (listed.setIfInBounds i true).getD k false = true → ∀ e ∈ o'.after.toList, Region.binds .any e = true → (listed.setIfInBounds i true).getD e.on false = true := by
      intro k' o' ho' hl e he hb'
      rw [hls]
      split
      · rfl
      · rw [hls] at hl
        split at hl
        · rename_i hk'
          subst hk'
          rw [ho] at ho'
          cases ho'
          exact hedge e he hb'
        · exact hI.closed k' o' ho' hl e he hb'
    have hsz2 : (listed.setIfInBounds i true).size = ops.size := by rw [Array.size_setIfInBounds, hI.size]
    -- temporaries that are no own
    have genv2 : ∀ {c' : Cx} {y : Value}, Ext c2 c' → ∀ t, (∀ j o', ops[j]? = some o' → (listed.setIfInBounds i true).getD j false = true → o'.dst ≠ some t) → RepT C.T c' (ρ t) ((aa.put o.dst y).tmps.getD t undef) := by
      intro c' y hx t hn
      have h2 := (hI.env2 t fun j o' ho' hl hd' => hn j o' ho' (by rw [hls]; split <;> first | rfl | exact hl) hd').ext hx
      cases hdo : o.dst with
      | none => exact h2
      | some d' =>
        rw [getD_put aa (by rw [hI.tmps]; exact hd0 d' hdo), if_neg (fun e => hn i o ho (by rw [hls, if_pos rfl]) (by rw [hdo, e]))]
        exact h2
    have genv1 : ∀ {c' : Cx} {y : Value}, Ext c2 c' → (i < ops.size - 4 → RepT C.T c' (vs i) y) → ∀ j o' d, j < ops.size - 4 → ops[j]? = some o' → (listed.setIfInBounds i true).getD j false = true → o'.dst = some d → RepT C.T c' (vs j) ((aa.put o.dst y).tmps.getD d undef) := by
      intro c' y hx hy j o' d hj ho' hl hd'
      rw [hls] at hl
      by_cases hji : j = i
      · subst hji
        rw [ho] at ho'
        cases ho'
        rw [hd', getD_put aa (by rw [hI.tmps]; exact hd0 d hd'), if_pos rfl]
        exact hy hj
      · rw [if_neg hji] at hl
        have := (hI.env1 j o' d hj ho' hl hd').ext hx
        cases hdo : o.dst with
        | none => exact this
        | some d' =>
          rw [getD_put aa (by rw [hI.tmps]; exact hd0 d' hdo), if_neg (fun e => hji (hF.dst j i o' o d ho' ho hd' (by rw [hdo, e])))]
          exact this
    have keepA : ∀ {y : Value}, o.dst ≠ some da → (aa.put o.dst y).tmps.getD da undef = aa.tmps.getD da undef := fun h => by
      cases hdo : o.dst with
      | none => rfl
      | some d' => rw [getD_put aa (by rw [hI.tmps]; exact hd0 d' hdo), if_neg (fun e => h (by rw [hdo, e]))]
    have keepB : ∀ {y : Value}, o.dst ≠ some db → (aa.put o.dst y).tmps.getD db undef = aa.tmps.getD db undef := fun h => by
      cases hdo : o.dst with
      | none => rfl
      | some d' => rw [getD_put aa (by rw [hI.tmps]; exact hd0 d' hdo), if_neg (fun e => h (by rw [hdo, e]))]
    have old : ∀ k', k' ≠ i → (listed.setIfInBounds i true).getD k' false = true → listed.getD k' false = true := fun k' hk' hl => by rw [hls, if_neg hk'] at hl; exact hl
    have hwt : o.guard = none → Region.wanted o (yielded ops aa.tmps) = true := fun hg => by simp [Region.wanted, hg]
    unfold wpOp
    rw [ho]
    simp only
    have hcase : i < ops.size - 4 ∨ i = ops.size - 4 ∨ i = ops.size - 4 + 1 ∨ i = ops.size - 4 + 2 ∨ i = ops.size - 4 + 3 := by omega
    rcases hcase with hip | hip | hip | hip | hip
    · -- one ahead of them
      obtain ⟨hmk, ga, gb⟩ := hF.quiet i o ho hip
      have hsame' : ∀ t ∈ o.looksAt ops, ρs i t = ρL t := fun t ht => hsame t ht (fun e => ga (e ▸ ht)) (fun e => gb (e ▸ ht))
      have hw : wantedA ops ρL o = wantedA ops (ρs i) o := (wanted_same hsame').symm
      have nda : o.dst ≠ some da := fun e => by have := hdsta i o ho e; omega
      have ndb : o.dst ≠ some db := fun e => by have := hdstb i o ho e; omega
      have next : ∀ (c' : Cx) (y : Value) (w' : World), Fwd base c2 c' w2 w' → Inv C.T base c' σ w' → RepT C.T c' (vs i) y → K (aa.put o.dst y) w' := by
        intro c' y w' hf' hinv hr
        refine hK _ _ ⟨c', hsz2, hclosed, genv1 hf'.ext (fun _ => hr), genv2 hf'.ext, hinv, hI.fwd.trans hf', Nat.le_trans hI.nle hf'.below.size, (put_size aa _ _).2.trans hI.defers, (put_size aa _ _).1.trans hI.tmps, fun hl => ?_, fun hl => ?_, fun h1 h2 => ?_⟩
        · obtain ⟨B, cs, p1, p2, p3, p4, p5⟩ := hI.A (old _ (by omega) hl)
          exact ⟨B, cs, (keepA nda).trans p1, p2, (hf'.G B (lt_of_some (hI.inv.G B _ p3).heap)).trans p3, p4, fun h => (p5 (old _ (by omega) h)).ext hf'.ext⟩
        · obtain ⟨B, cs, p1, p2, p3, p4, p5⟩ := hI.B (old _ (by omega) hl)
          exact ⟨B, cs, (keepB ndb).trans p1, p2, (hf'.G B (lt_of_some (hI.inv.G B _ p3).heap)).trans p3, p4, fun h => (p5 (old _ (by omega) h)).ext hf'.ext⟩
        · rw [keepA nda, keepB ndb]; exact hI.ne (old _ (by omega) h1) (old _ (by omega) h2)
      rcases (hstep0 i o ho).1 with ⟨hwt', hs⟩ | ⟨hwf, hv, hs⟩
      · rw [wanted_run hEL (hw.trans hwt'), if_pos rfl]
        refine .inl ?_
        rcases hs with ⟨hmk', _, _⟩ | ⟨_, he⟩
        · rw [hmk] at hmk'; cases hmk'
        · rw [eval_same hsame', (hq i (by omega)).2] at he
          have he := (quiet_any hmk he).2 σ
          exact op_sound hT hC hEL hI.inv (fun _ _ h => h) (fun h => by cases h) he fun c' y w' h1 h2 h3 => next c' y w' h1 h2 h3
      · rw [wanted_run hEL (hw.trans hwf), if_neg (by simp)]
        exact next c2 undef w2 (.refl _ _ _) hI.inv (by rw [hv]; exact mk_unit)
    · -- the first variable
      have : o = oa := by rw [hip, ha] at ho; exact (Option.some.inj ho).symm
      subst this
      rw [hwt a3, if_pos rfl]
      refine .inl ?_
      obtain ⟨z, hz, hr⟩ := zero_rep (c := c2) (w := w2) hT tyA
      obtain ⟨d, hd', hv, _⟩ := hr.fit fa
      have hrun : (execOp aa.eval o).run P w2 = .ok (.value (.pointer (some ⟨w2.heap.size, 0, none⟩))) (w2.alloc (.cells z.cells ea)) := by
        simp only [execOp, a1, Instr.alloc, Sem.run_bind, hz, run_newVar, Result.andThen_ok, Sem.run_pure]
      show o.upon P aa K _ ((execOp aa.eval o).run P w2)
      rw [hrun, Oper.upon_value]
      have i1 := hI.inv.newG (.cells z.cells ea (0, 0))
      have hx := Ext.setG c2 w2.heap.size (.cells z.cells ea (0, 0))
      have hle : base ≤ w2.heap.size := hI.inv.le
      have hw02 := hI.fwd.below.size
      refine hK _ _ ⟨_, hsz2, hclosed, genv1 hx (fun h => by omega), genv2 hx, i1, ⟨hI.fwd.ext.trans hx, hI.fwd.below.alloc hle _, hI.fwd.F, fun b hb' => (setG_ne c2 _ (by omega)).trans (hI.fwd.G b hb')⟩, by have := hI.nle; rw [World.size_alloc]; omega, (put_size aa _ _).2.trans hI.defers, (put_size aa _ _).1.trans hI.tmps, fun hl => ?_, fun hl => ?_, fun h1 h2 => ?_⟩
      · refine ⟨w2.heap.size, z.cells.toList, ?_, hI.nle, ?_, by rw [hv.len hT.sz, ← hT.sz ea d hd'], fun h => ?_⟩
        · rw [a2, getD_put_eq aa (by rw [hI.tmps]; exact hda)]
        · rw [setG_at]
        · exfalso
          have h' := old _ (by omega) h
          have := before_listed (L := fun j => listed.getD j false = true) hI.closed _ hsa (hI.closed _ _ hsa h') hF.b2a
          rw [← hip, hnl] at this; cases this
      · obtain ⟨B, cs, p1, p2, p3, p4, p5⟩ := hI.B (old _ (by omega) hl)
        exact ⟨B, cs, (keepB (by rw [a2]; exact fun e => hne (Option.some.inj e))).trans p1, p2, (setG_ne c2 _ (by have := lt_of_some (hI.inv.G B _ p3).heap; omega)).trans p3, p4, fun h => (p5 (old _ (by omega) h)).ext hx⟩
      · obtain ⟨B, cs, p1, p2, p3, p4, p5⟩ := hI.B (old _ (by omega) h2)
        have hB' := lt_of_some (hI.inv.G B _ p3).heap
        rw [keepB (by rw [a2]; exact fun e => hne (Option.some.inj e)), p1, a2, getD_put_eq aa (by rw [hI.tmps]; exact hda)]
        intro e
        simp only [Value.pointer.injEq, Option.some.injEq, Addr.mk.injEq] at e
        omega
    · -- the second one
      have : o = ob := by rw [hip, hb] at ho; exact (Option.some.inj ho).symm
      subst this
      rw [hwt b3, if_pos rfl]
      refine .inl ?_
      obtain ⟨z, hz, hr⟩ := zero_rep (c := c2) (w := w2) hT tyB
      obtain ⟨d, hd', hv, _⟩ := hr.fit fb
      have hrun : (execOp aa.eval o).run P w2 = .ok (.value (.pointer (some ⟨w2.heap.size, 0, none⟩))) (w2.alloc (.cells z.cells eb)) := by
        simp only [execOp, b1, Instr.alloc, Sem.run_bind, hz, run_newVar, Result.andThen_ok, Sem.run_pure]
      show o.upon P aa K _ ((execOp aa.eval o).run P w2)
      rw [hrun, Oper.upon_value]
      have i1 := hI.inv.newG (.cells z.cells eb (0, 0))
      have hx := Ext.setG c2 w2.heap.size (.cells z.cells eb (0, 0))
      have hle : base ≤ w2.heap.size := hI.inv.le
      have hw02 := hI.fwd.below.size
      refine hK _ _ ⟨_, hsz2, hclosed, genv1 hx (fun h => by omega), genv2 hx, i1, ⟨hI.fwd.ext.trans hx, hI.fwd.below.alloc hle _, hI.fwd.F, fun b hb' => (setG_ne c2 _ (by omega)).trans (hI.fwd.G b hb')⟩, by have := hI.nle; rw [World.size_alloc]; omega, (put_size aa _ _).2.trans hI.defers, (put_size aa _ _).1.trans hI.tmps, fun hl => ?_, fun hl => ?_, fun h1 h2 => ?_⟩
      · obtain ⟨B, cs, p1, p2, p3, p4, p5⟩ := hI.A (old _ (by omega) hl)
        exact ⟨B, cs, (keepA (by rw [b2]; exact fun e => hne (Option.some.inj e).symm)).trans p1, p2, (setG_ne c2 _ (by have := lt_of_some (hI.inv.G B _ p3).heap; omega)).trans p3, p4, fun h => (p5 (old _ (by omega) h)).ext hx⟩
      · refine ⟨w2.heap.size, z.cells.toList, ?_, hI.nle, ?_, by rw [hv.len hT.sz, ← hT.sz eb d hd'], fun h => ?_⟩
        · rw [b2, getD_put_eq aa (by rw [hI.tmps]; exact hdb)]
        · rw [setG_at]
        · exfalso
          have h' := old _ (by omega) h
          have := before_listed (L := fun j => listed.getD j false = true) hI.closed _ hsb (hI.closed _ _ hsb h') hF.b3b
          rw [← hip, hnl] at this; cases this
      · obtain ⟨B, cs, p1, p2, p3, p4, p5⟩ := hI.A (old _ (by omega) h1)
        have hB' := lt_of_some (hI.inv.G B _ p3).heap
        rw [keepA (by rw [b2]; exact fun e => hne (Option.some.inj e).symm), p1, b2, getD_put_eq aa (by rw [hI.tmps]; exact hdb)]
        intro e
        simp only [Value.pointer.injEq, Option.some.injEq, Addr.mk.injEq] at e
        omega
    · -- the first store
      have : o = sa := by rw [hip, hsa] at ho; exact (Option.some.inj ho).symm
      subst this
      rw [hwt s3, if_pos rfl]
      refine .inl ?_
      have lA : listed.getD (ops.size - 4) false = true := hbef (by rw [hip]; exact hF.b2a)
      have lB : listed.getD (ops.size - 4 + 1) false = true := hbef (by rw [hip]; exact hF.b2b)
      obtain ⟨B, cs, p1, p2, p3, p4, p5⟩ := hI.A lA
      obtain ⟨B', cs', q1, q2, q3, q4, q5⟩ := hI.B lB
      have hBB : B ≠ B' := fun e => hI.ne lA lB (by rw [p1, q1, e])
      have hvr : RepT C.T c2 VA (aa.eval va) := by
        have := hEL.val va
        have e : val ρL va = VA := by
          rw [← hva, ← hip]
          cases hvt : va with
          | tmp s =>
            have hs : tmpOf va = some s := by rw [hvt]; rfl
            exact (hsame s (looks_store s1 hs) (fun e => n1 (by rw [hs, e])) (fun e => n2 (by rw [hs, e]))).symm
          | _ => rfl
        rw [e] at this; exact this
      have hh := (hI.inv.G B _ p3).heap
      obtain ⟨cs2, hrun, hr2, hl2, hh2⟩ := storeH hT hh p4 hvr fva
      have hex : (execOp aa.eval o).run P w2 = .ok .skip (w2.setRow B cs2.toArray) := by
        have hev : aa.eval (.tmp da) = .pointer (some ⟨B, 0, none⟩) := p1
        simp only [execOp, s1, hev, Sem.run_bind, hrun, Result.andThen_ok, Sem.run_pure]
      show o.upon P aa K _ ((execOp aa.eval o).run P w2)
      rw [hex, Oper.upon_skip, s2]
      have i1 := hI.inv.setH p3 (.cells cs2.toArray ea (0, 0)) (fun b hb' => setRow_other w2 _ hb') hh2
      have hx := Ext.setG c2 B (.cells cs2.toArray ea (0, 0))
      have hbase : base ≤ w.heap.size := hR.inv.le
      have hw02 := hR.fwd.below.size
      have gx1 := genv1 (y := undef) hx (fun h => by omega)
      have gx2 := genv2 (y := undef) hx
      rw [s2] at gx1 gx2
      refine hK _ _ ⟨_, hsz2, hclosed, gx1, gx2, i1, ⟨hI.fwd.ext.trans hx, hI.fwd.below.trans (Below.row (by omega) _), hI.fwd.F, fun b hb' => (setG_ne c2 _ (by omega)).trans (hI.fwd.G b hb')⟩, by have := hI.nle; simp [World.setRow]; omega, hI.defers, hI.tmps, fun _ => ?_, fun _ => ?_, fun _ _ => hI.ne lA lB⟩
      · exact ⟨B, cs2, p1, p2, setG_at _ _ _, hl2, fun _ => hr2.ext hx⟩
      · exact ⟨B', cs', q1, q2, (setG_ne c2 _ (fun e => hBB e.symm)).trans q3, q4, fun h => (q5 (old _ (by omega) h)).ext hx⟩
    · -- the second one
      have : o = sb := by rw [hip, hsb] at ho; exact (Option.some.inj ho).symm
      subst this
      rw [hwt t3, if_pos rfl]
      refine .inl ?_
      have lA : listed.getD (ops.size - 4) false = true := hbef (by rw [hip]; exact hF.b3a)
      have lB : listed.getD (ops.size - 4 + 1) false = true := hbef (by rw [hip]; exact hF.b3b)
      obtain ⟨B', cs', q1, q2, q3, q4, q5⟩ := hI.A lA
      obtain ⟨B, cs, p1, p2, p3, p4, p5⟩ := hI.B lB
      have hBB : B' ≠ B := fun e => hI.ne lA lB (by rw [p1, q1, e])
      have hvr : RepT C.T c2 VB (aa.eval vb) := by
        have := hEL.val vb
        have e : val ρL vb = VB := by
          rw [← hvb, ← hip]
          cases hvt : vb with
          | tmp s =>
            have hs : tmpOf vb = some s := by rw [hvt]; rfl
            exact (hsame s (looks_store t1 hs) (fun e => n3 (by rw [hs, e])) (fun e => n4 (by rw [hs, e]))).symm
          | _ => rfl
        rw [e] at this; exact this
      have hh := (hI.inv.G B _ p3).heap
      obtain ⟨cs2, hrun, hr2, hl2, hh2⟩ := storeH hT hh p4 hvr fvb
      have hex : (execOp aa.eval o).run P w2 = .ok .skip (w2.setRow B cs2.toArray) := by
        have hev : aa.eval (.tmp db) = .pointer (some ⟨B, 0, none⟩) := p1
        simp only [execOp, t1, hev, Sem.run_bind, hrun, Result.andThen_ok, Sem.run_pure]
      show o.upon P aa K _ ((execOp aa.eval o).run P w2)
      rw [hex, Oper.upon_skip, t2]
      have i1 := hI.inv.setH p3 (.cells cs2.toArray eb (0, 0)) (fun b hb' => setRow_other w2 _ hb') hh2
      have hx := Ext.setG c2 B (.cells cs2.toArray eb (0, 0))
      have hbase : base ≤ w.heap.size := hR.inv.le
      have hw02 := hR.fwd.below.size
      have gx1 := genv1 (y := undef) hx (fun h => by omega)
      have gx2 := genv2 (y := undef) hx
      rw [t2] at gx1 gx2
      refine hK _ _ ⟨_, hsz2, hclosed, gx1, gx2, i1, ⟨hI.fwd.ext.trans hx, hI.fwd.below.trans (Below.row (by omega) _), hI.fwd.F, fun b hb' => (setG_ne c2 _ (by omega)).trans (hI.fwd.G b hb')⟩, by have := hI.nle; simp [World.setRow]; omega, hI.defers, hI.tmps, fun _ => ?_, fun _ => ?_, fun _ _ => hI.ne lA lB⟩
      · exact ⟨B', cs', q1, q2, (setG_ne c2 _ hBB).trans q3, q4, fun h => (q5 (old _ (by omega) h)).ext hx⟩
      · exact ⟨B, cs2, p1, p2, setG_at _ _ _, hl2, fun _ => hr2.ext hx⟩
theorem draw_sound (hT : TabOk P C.T) (hm : P.follows .mixedOrders = true) (hC : CallOk P C call) (hG : GlobOk C.T c0) : DrawOk P C call f base c0 w0 N D r := by
  intro id ops k c ρ σ a w hd hok hR
  refine ⟨hm, ?_⟩
  rcases hok with hok | hok | ⟨hok, h⟩
  · exact draw_two hT hm hC hG id ops k c ρ σ a w hd (.inl hok) hR
  · exact draw_two hT hm hC hG id ops k c ρ σ a w hd (.inr hok) hR
  · exact drawF_run hT hm hC hG hd hok h hR
end
end Go.Proofs.Yticlihmbikcohaa.Va
