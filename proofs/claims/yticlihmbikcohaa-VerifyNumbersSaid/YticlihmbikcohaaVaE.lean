/- a region that draws its order: all orders come to one -/
import Derived.Test.YticlihmbikcohaaVaD
namespace Go.Proofs.Yticlihmbikcohaa.Va
open Go Go.RowKit
set_option linter.unusedVariables false
set_option linter.unusedSimpArgs false
section
/-! ### what stands before -/
def oneB (look : Nat → Nat) (o : Oper) : Nat := o.after.foldl (fun s e => if Region.binds .any e then s ||| 2 ^ e.on ||| look e.on else s) 0
theorem pushes {α : Type} (F : Array Nat → α → Nat) : ∀ (l : List α) (A : Array Nat), (l.foldl (fun acc o => acc.push (F acc o)) A).size = A.size + l.length ∧ (∀ k, k < A.size → (l.foldl (fun acc o => acc.push (F acc o)) A).getD k 0 = A.getD k 0) ∧
    ∀ (i : Nat) o, l[i]? = some o → ∃ A' : Array Nat, A'.size = A.size + i ∧ (∀ k, k < A'.size → A'.getD k 0 = (l.foldl (fun acc o => acc.push (F acc o)) A).getD k 0) ∧ (l.foldl (fun acc o => acc.push (F acc o)) A).getD (A.size + i) 0 = F A' o
  | [], A => ⟨by simp, fun _ _ => rfl, fun i o h => by simp at h⟩
  | x :: l, A => by
    obtain ⟨h1, h2, h3⟩ := pushes F l (A.push (F A x))
    simp only [List.foldl_cons]
    have hp : ∀ k, k < A.size → (A.push (F A x)).getD k 0 = A.getD k 0 := fun k hk => by
      simp only [Array.getD_eq_getD_getElem?]
      rw [Array.getElem?_push, if_neg (by omega)]
    refine ⟨by rw [h1]; simp; omega, fun k hk => ?_, fun i o ho => ?_⟩
    · rw [h2 k (by simp; omega), hp k hk]
    · cases i with
      | zero =>
        simp only [List.getElem?_cons_zero, Option.some.injEq] at ho
        subst ho
        refine ⟨A, rfl, fun k hk => ?_, ?_⟩
        · rw [h2 k (by simp; omega), hp k hk]
        · rw [Nat.add_zero, h2 A.size (by simp)]
          simp [Array.getD_eq_getD_getElem?]
      | succ i =>
        simp only [List.getElem?_cons_succ] at ho
        obtain ⟨A', g1, g2, g3⟩ := h3 i o ho
        exact ⟨A', by rw [g1]; simp; omega, g2, by rw [← g3]; congr 1; simp; omega⟩
theorem bits {look : Nat → Nat} {j : Nat} : ∀ (l : List Edge) (s : Nat), (l.foldl (fun s e => if Region.binds .any e then s ||| 2 ^ e.on ||| look e.on else s) s).testBit j = true → s.testBit j = true ∨ ∃ e ∈ l, Region.binds .any e = true ∧ (e.on = j ∨ (look e.on).testBit j = true)
  | [], s, h => .inl h
  | e :: l, s, h => by
    simp only [List.foldl_cons] at h
    rcases bits l _ h with h | ⟨e', he, h1, h2⟩
    · split at h
      · rename_i hb
        simp only [Nat.testBit_or, Bool.or_eq_true, Nat.testBit_two_pow] at h
        rcases h with (h | h) | h
        · exact .inl h
        · exact .inr ⟨e, by simp, hb, .inl (by simpa using h)⟩
        · exact .inr ⟨e, by simp, hb, .inr h⟩
      · exact .inl h
    · exact .inr ⟨e', by simp [he], h1, h2⟩
/-- Who is before i: an edge of i, or who is before one (earlier) that i has an edge to. -/
theorem before_step {ops : Array Oper} {i j : Nat} {o : Oper} (ho : ops[i]? = some o) (h : ((Region.before ops).getD i 0).testBit j = true) :
    ∃ e ∈ o.after.toList, Region.binds .any e = true ∧ (e.on = j ∨ (e.on < i ∧ ((Region.before ops).getD e.on 0).testBit j = true)) := by
  obtain ⟨h1, h2, h3⟩ := pushes (fun acc o => oneB (fun k => acc.getD k 0) o) ops.toList #[]
  have hb : Region.before ops = ops.toList.foldl (fun acc o => acc.push (oneB (fun k => acc.getD k 0) o)) #[] := by
    unfold Region.before
    rw [← Array.foldl_toList]
    rfl
  obtain ⟨A', g1, g2, g3⟩ := h3 i o (by rw [Array.getElem?_toList]; exact ho)
  simp only [List.size_toArray, List.length_nil, Nat.zero_add] at g1 g3
  rw [hb, g3] at h
  unfold oneB at h
  rw [← Array.foldl_toList] at h
  rcases bits (look := fun k => A'.getD k 0) _ _ h with h | ⟨e, he, k1, k2⟩
  · simp at h
  · refine ⟨e, he, k1, ?_⟩
    rcases k2 with k2 | k2
    · exact .inl k2
    · refine .inr ?_
      by_cases hlt : e.on < i
      · exact ⟨hlt, by rw [hb, ← g2 e.on (by omega)]; exact k2⟩
      · have : A'.getD e.on 0 = 0 := by rw [Array.getD_eq_getD_getElem?, Array.getElem?_eq_none (by omega)]; rfl
        rw [this] at k2
        simp at k2
/-- Who is before is listed first. -/
theorem before_listed {ops : Array Oper} {L : Nat → Prop} (hc : ∀ k o, ops[k]? = some o → L k → ∀ e ∈ o.after.toList, Region.binds .any e = true → L e.on) :
    ∀ (i : Nat) {j : Nat} {o : Oper}, ops[i]? = some o → (∀ e ∈ o.after.toList, Region.binds .any e = true → L e.on) → ((Region.before ops).getD i 0).testBit j = true → L j := by
  intro i
  induction i using Nat.strongRecOn with
  | _ i ih =>
    intro j o ho hL h
    obtain ⟨e, he, k1, k2⟩ := before_step ho h
    have hle := hL e he k1
    rcases k2 with rfl | ⟨hlt, k2⟩
    · exact hle
    · have hi : i < ops.size := (Array.getElem?_eq_some_iff.1 ho).1
      have hk : ops[e.on]? = some ops[e.on] := Array.getElem?_eq_getElem (by omega)
      exact ih e.on hlt hk (fun e' he' hb => hc e.on _ hk hle e' he' hb) k2
end
section
variable {P : Program} {C : Cfg} {call : Caller} {f : FuncId} {R : Type} {r : R} {ops : Array Oper} {base N : Nat} {D : List Deferred} {c0 : Cx} {w0 : World}
/-- One operation, in the text's order. -/
def StepQ (C : Cfg) (call : Caller) (f : FuncId) (ops : Array Oper) (σ0 : St) (ρ : Env) (σ : St) (o : Oper) (v : AV) (σ' : St) : Prop :=
  (wantedA ops ρ o = some true ∧ ((makes C f o = true ∧ nvA C f ρ o = true ∧ evalOp C call f false ρ σ σ o = some (v, σ')) ∨ (makes C f o = false ∧ evalOp C call f true ρ σ0 σ o = some (v, σ')))) ∨ (wantedA ops ρ o = some false ∧ v = .tup [] ∧ σ' = σ)
theorem traceQ {k : Env → St → Option R} : ∀ (l : List Oper) (σ0 : St) (ρ : Env) (σ : St), evalQ C call f ops σ0 l ρ σ k = some r →
    ∃ (ρs : Nat → Env) (σs : Nat → St) (vs : Nat → AV) (bs : Nat → St), ρs 0 = ρ ∧ σs 0 = σ ∧ bs 0 = σ0 ∧ k (ρs l.length) (σs l.length) = some r ∧ ∀ i o, l[i]? = some o → (StepQ C call f ops (bs i) (ρs i) (σs i) o (vs i) (σs (i + 1)) ∧ ρs (i + 1) = putA (ρs i) o.dst (vs i)) ∧ bs (i + 1) = if turns C f o = true then σs (i + 1) else bs i
  | [], σ0, ρ, σ, h => ⟨fun _ => ρ, fun _ => σ, fun _ => .undef, fun _ => σ0, rfl, rfl, rfl, h, fun i o ho => by simp at ho⟩
  | o :: l, σ0, ρ, σ, h => by
    have main : ∃ v σ', StepQ C call f ops σ0 ρ σ o v σ' ∧ evalQ C call f ops (if turns C f o = true then σ' else σ0) l (putA ρ o.dst v) σ' k = some r := by
      simp only [evalQ] at h
      cases hw : wantedA ops ρ o with
      | none => rw [hw] at h; cases h
      | some t =>
        rw [hw] at h
        cases t with
        | false =>
          rw [sel_false] at h
          refine ⟨_, _, .inr ⟨hw, rfl, rfl⟩, ?_⟩
          cases ht : turns C f o <;> simpa [ht, br, Lz.get] using h
        | true =>
          rw [sel_true] at h
          cases hm : makes C f o with
          | true =>
            rw [hm, br_true] at h
            cases hn : nvA C f ρ o with
            | false => rw [hn] at h; cases h
            | true =>
              rw [hn, br_true] at h
              cases he : evalOp C call f false ρ σ σ o with
              | none => rw [he] at h; cases h
              | some p =>
                rw [he, bnd_some] at h
                refine ⟨p.1, p.2, .inl ⟨hw, .inl ⟨hm, hn, he⟩⟩, ?_⟩
                cases ht : turns C f o <;> simpa [ht, br, Lz.get] using h
          | false =>
            rw [hm, br_false] at h
            cases he : evalOp C call f true ρ σ0 σ o with
            | none => rw [he] at h; cases h
            | some p =>
              rw [he] at h
              have ht : turns C f o = false := by
                cases ht : turns C f o with
                | false => rfl
                | true => simp [makes, ht] at hm
              exact ⟨p.1, p.2, .inl ⟨hw, .inr ⟨hm, he⟩⟩, by rw [ht, if_neg (by simp)]; exact h⟩
    obtain ⟨v, σ', h1, h2⟩ := main
    obtain ⟨ρs, σs, vs, bs, g1, g2, g0, g3, g4⟩ := traceQ l _ _ _ h2
    refine ⟨fun i => match i with | 0 => ρ | i + 1 => ρs i, fun i => match i with | 0 => σ | i + 1 => σs i, fun i => match i with | 0 => v | i + 1 => vs i, fun i => match i with | 0 => σ0 | i + 1 => bs i, rfl, rfl, rfl, g3, fun i o' ho => ?_⟩
    cases i with
    | zero =>
      simp only [List.getElem?_cons_zero, Option.some.injEq] at ho
      subst ho
      refine ⟨⟨?_, g1⟩, ?_⟩
      · show StepQ C call f ops σ0 ρ σ o v (σs 0)
        rw [g2]; exact h1
      · show bs 0 = if turns C f o = true then σs 0 else σ0
        rw [g0, g2]
    | succ i => exact g4 i o' (by simpa using ho)
structure DrawFacts (C : Cfg) (f : FuncId) (ops : Array Oper) : Prop where
  edge : ∀ (i : Nat) (o : Oper), ops[i]? = some o → ∀ e ∈ o.after.toList, e.on < i ∨ Region.binds .any e = false
  dst : ∀ (i j : Nat) (o o' : Oper) (d : Tmp), ops[i]? = some o → ops[j]? = some o' → o.dst = some d → o'.dst = some d → i = j
  look : ∀ (i j : Nat) (o o' : Oper) (d : Tmp), ops[i]? = some o → ops[j]? = some o' → o'.dst = some d → d ∈ o.looksAt ops → (j < i ∧ ((Region.before ops).getD i 0).testBit j = true) ∨ (i < j ∧ ((Region.before ops).getD j 0).testBit i = true)
  make : ∀ (i j : Nat) (o o' : Oper), ops[i]? = some o → ops[j]? = some o' → makes C f o = true → makes C f o' = true → j < i → ((Region.before ops).getD i 0).testBit j = true
theorem lookAt_op {o : Oper} {t : Tmp} (h : lookAt o = some t) : (∃ ty, o.op = .load ty (.tmp t)) ∨ (∃ ty i ok, o.op = .lookup ty (.tmp t) i ok) := by
  unfold lookAt at h
  split at h
  · rename_i ty t' ho; cases h; exact .inl ⟨ty, ho⟩
  · rename_i ty t' i ok ho; cases h; exact .inr ⟨ty, i, ok, ho⟩
  · cases h
theorem zip_mem {o : Oper} {i : Nat} (h : ops[i]? = some o) : (o, i) ∈ ops.toList.zipIdx := by
  rw [List.mem_zipIdx_iff_getElem?]
  simpa using h
theorem drawFacts (h : drawBase C f ops = true) : DrawFacts C f ops := by
  have key : ∀ (i : Nat) (o : Oper), ops[i]? = some o → (∀ e ∈ o.after.toList, e.on < i ∨ Region.binds .any e = false) ∧ ∀ (j : Nat) (o' : Oper), ops[j]? = some o' →
      (∀ d, o'.dst = some d → (i = j ∨ o.dst ≠ some d) ∧ (d ∈ o.looksAt ops → (j < i ∧ ((Region.before ops).getD i 0).testBit j = true) ∨ (i < j ∧ ((Region.before ops).getD j 0).testBit i = true))) ∧
      (makes C f o = true → makes C f o' = true → j < i → ((Region.before ops).getD i 0).testBit j = true) := by
    intro i o ho
    have h1 := List.all_eq_true.1 h (o, i) (zip_mem ho)
    simp only [Bool.and_eq_true] at h1
    refine ⟨fun e he => ?_, fun j o' ho' => ?_⟩
    · have := List.all_eq_true.1 h1.1 e he
      simpa using this
    · have h2 := List.all_eq_true.1 h1.2 (o', j) (zip_mem ho')
      simp only [Bool.and_eq_true] at h2
      obtain ⟨ha, hc⟩ := h2
      refine ⟨fun d hd => ?_, fun hm hm' hlt => ?_⟩
      · rw [hd] at ha
        simp only [Bool.and_eq_true, Bool.or_eq_true, decide_eq_true_eq, bne_iff_ne, ne_eq, Bool.not_eq_true', List.contains_eq_mem, decide_eq_false_iff_not] at ha
        refine ⟨ha.1, fun hdl => ?_⟩
        rcases ha.2 with (hn | hn) | hn
        · exact absurd hdl hn
        · exact .inl hn
        · exact .inr hn
      · simpa [hm, hm', hlt] using hc
  exact ⟨fun i o ho => (key i o ho).1, fun i j o o' d ho ho' hd hd' => (((key i o ho).2 j o' ho').1 d hd').1.resolve_right (fun hn => hn hd), fun i j o o' d ho ho' hd' hl => (((key i o ho).2 j o' ho').1 d hd').2 hl,
    fun i j o o' ho ho' => ((key i o ho).2 j o' ho').2⟩
theorem drawTurn_at (h : drawTurn C f ops = true) {i j : Nat} {o o' : Oper} (ho : ops[i]? = some o) (ho' : ops[j]? = some o') (ht : turns C f o = true) (hij : i ≠ j) (hto : touches o' = true) (hmk : makes C f o' = false) : (j < i ∧ ((Region.before ops).getD i 0).testBit j = true) ∨ (i < j ∧ ((Region.before ops).getD j 0).testBit i = true) := by
  have h1 := List.all_eq_true.1 h (o, i) (zip_mem ho)
  have h2 := List.all_eq_true.1 h1 (o', j) (zip_mem ho')
  simpa [ht, hij, hto, hmk] using h2
/-- where a region that draws stands -/
structure DInv (C : Cfg) (f : FuncId) (ops : Array Oper) (base : Nat) (c0 : Cx) (w0 : World) (N : Nat) (D : List Deferred) (ρ : Env) (σ : St) (σs : Nat → St) (vs : Nat → AV) (listed : Array Bool) (m : Nat) (c : Cx) (a : Act) (w : World) : Prop where
  size : listed.size = ops.size
  closed : ∀ k o, ops[k]? = some o → listed.getD k false = true → ∀ e ∈ o.after.toList, Region.binds .any e = true → listed.getD e.on false = true
  made : ∀ j o, ops[j]? = some o → makes C f o = true → (listed.getD j false = true ↔ j < m)
  le : m ≤ ops.size
  env1 : ∀ j o d, ops[j]? = some o → listed.getD j false = true → o.dst = some d → RepT C.T c (vs j) (a.tmps.getD d undef)
  env2 : ∀ t, (∀ j o, ops[j]? = some o → listed.getD j false = true → o.dst ≠ some t) → RepT C.T c (ρ t) (a.tmps.getD t undef)
  inv : Inv C.T base c (σs m) w
  fwd : Fwd base c0 c w0 w
  defers : a.defers = D
  tmps : a.tmps.size = N
  mono : ∀ t, t ≤ m → (∀ j o, ops[j]? = some o → t ≤ j → j < m → turns C f o = false) → ∀ id ob, (σs t).obj id = some ob → (σs m).obj id = some ob
theorem getD_put (a : Act) {d t : Nat} {y : Value} (hd : d < a.tmps.size) : (a.put (some d) y).tmps.getD t undef = if t = d then y else a.tmps.getD t undef := by
  simp only [Act.put, Array.getD_eq_getD_getElem?, Array.getElem?_setIfInBounds]
  by_cases h : t = d
  · subst h; simp [hd]
  · rw [if_neg (fun e => h e.symm), if_neg h]
theorem listed_set (listed : Array Bool) (i k : Nat) (hi : i < listed.size) : (listed.setIfInBounds i true).getD k false = if k = i then true else listed.getD k false := by
  simp only [Array.getD_eq_getD_getElem?, Array.getElem?_setIfInBounds]
  by_cases h : k = i
  · subst h; simp [hi]
  · rw [if_neg (fun e => h e.symm), if_neg h]
theorem turns_makes {o : Oper} (h : turns C f o = true) : makes C f o = true := by simp [makes, h]
section
variable (hF : DrawFacts C f ops) {ρ : Env} {σ : St} {ρs : Nat → Env} {σs : Nat → St} {vs : Nat → AV} {bs : Nat → St} (e0 : ρs 0 = ρ) (s0 : σs 0 = σ)
  (hst : ∀ i o, ops.toList[i]? = some o → StepQ C call f ops (bs i) (ρs i) (σs i) o (vs i) (σs (i + 1)) ∧ ρs (i + 1) = putA (ρs i) o.dst (vs i))
  (hQ : ∀ (i : Nat) (o : Oper) (listed : Array Bool) (m : Nat) (c : Cx) (a : Act) (w : World) (ρL : Env), ops[i]? = some o → DInv C f ops base c0 w0 N D ρ σ σs vs listed m c a w → listed.getD i false = false → (∀ e ∈ o.after.toList, Region.binds .any e = true → listed.getD e.on false = true) → makes C f o = false → touches o = true → RepEnv C.T c ρL a → (∀ t ∈ o.looksAt ops, ρs i t = ρL t) → evalOp C call f true ρL (bs i) (σs m) o = some (vs i, σs m) →
    ∃ σr, evalOp C call f true ρL σr (σs m) o = some (vs i, σs m) ∧ ∀ id ob, σr.obj id = some ob → (σs m).obj id = some ob)
include hst in
theorem st_const : ∀ (n m : Nat), m + n ≤ ops.size → (∀ j o, ops[j]? = some o → makes C f o = true → m ≤ j → j < m + n → False) → σs (m + n) = σs m
  | 0, m, _, _ => rfl
  | n + 1, m, hle, h => by
    have ih := st_const n m (by omega) (fun j o ho hm h1 h2 => h j o ho hm h1 (by omega))
    have hlt : m + n < ops.size := by omega
    have ho : ops[m + n]? = some ops[m + n] := Array.getElem?_eq_getElem hlt
    obtain ⟨h1, _⟩ := hst (m + n) _ (by rw [Array.getElem?_toList]; exact ho)
    rw [show m + (n + 1) = m + n + 1 by omega, ← ih]
    have hnm : makes C f ops[m + n] = false := by
      cases hmk : makes C f ops[m + n] with
      | false => rfl
      | true => exact (h _ _ ho hmk (by omega) (by omega)).elim
    rcases h1 with ⟨_, ⟨hm, _, _⟩ | ⟨_, he⟩⟩ | ⟨_, _, hs⟩
    · rw [hnm] at hm; cases hm
    · exact (quiet_any hnm he).1
    · exact hs
include hF hst e0 in
theorem env_at : ∀ (i : Nat) (t : Nat), i ≤ ops.size → (∀ j o, ops[j]? = some o → o.dst = some t → j < i → ρs i t = vs j) ∧ ((∀ j o, ops[j]? = some o → j < i → o.dst ≠ some t) → ρs i t = ρ t)
  | 0, t, _ => ⟨fun j o _ _ hj => absurd hj (Nat.not_lt_zero _), fun _ => by rw [e0]⟩
  | i + 1, t, hle => by
    obtain ⟨ih1, ih2⟩ := env_at i t (by omega)
    have ho : ops[i]? = some ops[i] := Array.getElem?_eq_getElem (by omega)
    obtain ⟨_, h2⟩ := hst i _ (by rw [Array.getElem?_toList]; exact ho)
    have hput : ∀ t, ρs (i + 1) t = if ops[i].dst = some t then vs i else ρs i t := fun t => by
      rw [h2]
      cases hd : ops[i].dst with
      | none => simp [putA]
      | some d =>
        simp only [putA, upd, Option.some.injEq]
        by_cases ht : t = d
        · rw [if_pos ht, if_pos ht.symm]
        · rw [if_neg ht, if_neg (fun e => ht e.symm)]
    refine ⟨fun j o hj hd hlt => ?_, fun hn => ?_⟩
    · rw [hput]
      by_cases hij : j = i
      · subst hij
        rw [ho] at hj
        cases hj
        rw [if_pos hd]
      · rw [if_neg (fun hd' => hij (hF.dst j i o _ t hj ho hd hd'))]
        exact ih1 j o hj hd (by omega)
    · rw [hput, if_neg (hn i _ ho (by omega))]
      exact ih2 fun j o hj hlt => hn j o hj (by omega)
include hF hst e0 hQ in
theorem draw_run (hT : TabOk P C.T) (hC : CallOk P C call) (hG : GlobOk C.T c0) (hd : dstsOk N ops.toList) {k : Ex → Env → St → Option R} (hk : k .normal (ρs ops.size) (σs ops.size) = some r) :
    ∀ (fuel : Nat) (listed : Array Bool) (m : Nat) (c : Cx) (a : Act) (w : World), listed.toList.count false ≤ fuel → DInv C f ops base c0 w0 N D ρ σ σs vs listed m c a w → wpAny P .any ops (Post C base c0 w0 N D k r) fuel listed a w := by
  have hfin : ∀ (listed : Array Bool) (m : Nat) (c : Cx) (a : Act) (w : World), DInv C f ops base c0 w0 N D ρ σ σs vs listed m c a w → Region.ready .any ops listed = [] → Post C base c0 w0 N D k r .normal a w := by
    intro listed m c a w hI hr
    have hall : ∀ i, i < ops.size → listed.getD i false = true := by
      intro i
      induction i using Nat.strongRecOn with
      | _ i ih =>
        intro hi
        cases hl : listed.getD i false with
        | true => rfl
        | false =>
          exfalso
          have ho : ops[i]? = some ops[i] := Array.getElem?_eq_getElem hi
          have hm : i ∈ Region.ready .any ops listed := by
            unfold Region.ready
            refine List.mem_filter.2 ⟨List.mem_range.2 hi, ?_⟩
            simp only [Bool.and_eq_true]
            refine ⟨?_, ?_⟩
            · have : listed.getD i true = listed.getD i false := by
                simp only [Array.getD_eq_getD_getElem?]
                rw [Array.getElem?_eq_getElem (by rw [hI.size]; exact hi)]; rfl
              rw [this, hl]; rfl
            · rw [ho]
              simp only [Option.map_some, Option.getD_some, Array.all_eq_true_iff_forall_mem]
              intro e he
              rcases hF.edge i _ ho e (by simpa using he) with h | h
              · rw [ih e.on h (by omega)]; simp
              · rw [h]; rfl
          rw [hr] at hm
          cases hm
    have hs : σs ops.size = σs m := by
      have := st_const (C := C) (f := f) (call := call) (ops := ops) hst (ops.size - m) m (by have := hI.le; omega) (fun j o ho hm h1 h2 => by
        have hj : j < ops.size := (Array.getElem?_eq_some_iff.1 ho).1
        have := (hI.made j o ho hm).1 (hall j hj)
        omega)
      rw [← this]; congr 1; have := hI.le; omega
    refine ⟨.normal, ρs ops.size, σs ops.size, c, rfl, hk, ⟨fun t => ?_, hG.ext hI.fwd.ext⟩, by rw [hs]; exact hI.inv, hI.fwd, hI.defers, hI.tmps⟩
    obtain ⟨h1, h2⟩ := env_at hF e0 hst ops.size t (Nat.le_refl _)
    by_cases hx : ∃ (j : Nat) (o : Oper), ops[j]? = some o ∧ o.dst = some t
    · obtain ⟨j, o, ho, hd'⟩ := hx
      have hj : j < ops.size := (Array.getElem?_eq_some_iff.1 ho).1
      rw [h1 j o ho hd' hj]
      exact hI.env1 j o t ho (hall j hj) hd'
    · rw [h2 fun j (o : Oper) ho _ hd' => hx ⟨j, o, ho, hd'⟩]
      exact hI.env2 t fun j (o : Oper) ho _ hd' => hx ⟨j, o, ho, hd'⟩
  have hstep : ∀ (listed : Array Bool) (m : Nat) (c : Cx) (a : Act) (w : World) (i : Nat) (K : Act → World → Prop), DInv C f ops base c0 w0 N D ρ σ σs vs listed m c a w → i ∈ Region.ready .any ops listed →
      (∀ m' c' a' w', DInv C f ops base c0 w0 N D ρ σ σs vs (listed.setIfInBounds i true) m' c' a' w' → K a' w') → wpOp P ops (Post C base c0 w0 N D k r) i K a w := by
    intro listed m c a w i K hI hi hK
    unfold Region.ready at hi
    obtain ⟨hi1, hi2⟩ := List.mem_filter.1 hi
    have hlt : i < ops.size := List.mem_range.1 hi1
    have ho : ops[i]? = some ops[i] := Array.getElem?_eq_getElem hlt
    generalize hoo : ops[i] = o at ho
    simp only [Bool.and_eq_true, Bool.not_eq_true'] at hi2
    obtain ⟨hi2, hi3⟩ := hi2
    rw [ho] at hi3
    simp only [Option.map_some, Option.getD_some, Array.all_eq_true_iff_forall_mem] at hi3
    have hnl : listed.getD i false = false := by
      have : listed.getD i true = listed.getD i false := by
        simp only [Array.getD_eq_getD_getElem?]
        rw [Array.getElem?_eq_getElem (by rw [hI.size]; exact hlt)]; rfl
      rw [← this]; exact hi2
    have hedge : ∀ e ∈ o.after.toList, Region.binds .any e = true → listed.getD e.on false = true := fun e he hb => by
      have := hi3 e (by simpa using he)
      simpa [hb] using this
    have hbef : ∀ {j : Nat}, ((Region.before ops).getD i 0).testBit j = true → listed.getD j false = true := fun h => before_listed (L := fun j => listed.getD j false = true) hI.closed i ho hedge h
    have hls := fun k => listed_set listed i k (by rw [hI.size]; exact hlt)
    obtain ⟨hs, _⟩ := hst i o (by rw [Array.getElem?_toList]; exact ho)
    -- the environment that is
    have hEx : ∃ ρL : Env, RepEnv C.T c ρL a ∧ ∀ t ∈ o.looksAt ops, ρs i t = ρL t := by
      refine ⟨fun t => (Classical.propDecidable (∃ (j : Nat) (o' : Oper), ops[j]? = some o' ∧ listed.getD j false = true ∧ o'.dst = some t)).casesOn (fun _ => ρ t) (fun h => vs h.choose), ⟨fun t => ?_, hG.ext hI.fwd.ext⟩, fun t ht => ?_⟩
      · simp only
        cases Classical.propDecidable (∃ (j : Nat) (o' : Oper), ops[j]? = some o' ∧ listed.getD j false = true ∧ o'.dst = some t) with
        | isTrue h =>
          obtain ⟨o', h1, h2, h3⟩ := h.choose_spec
          exact hI.env1 _ o' t h1 h2 h3
        | isFalse h => exact hI.env2 t fun j o' h1 h2 h3 => h ⟨j, o', h1, h2, h3⟩
      · obtain ⟨g1, g2⟩ := env_at hF e0 hst i t (Nat.le_of_lt hlt)
        simp only
        cases Classical.propDecidable (∃ (j : Nat) (o' : Oper), ops[j]? = some o' ∧ listed.getD j false = true ∧ o'.dst = some t) with
        | isTrue h =>
          obtain ⟨o', h1, h2, h3⟩ := h.choose_spec
          rcases hF.look i _ o o' t ho h1 h3 ht with hq | hq
          · exact g1 _ o' h1 h3 hq.1
          · have := before_listed (L := fun j => listed.getD j false = true) hI.closed _ h1 (hI.closed _ o' h1 h2) hq.2
            exact absurd this (by rw [hnl]; simp)
        | isFalse h =>
          exact g2 fun j o' h1 h2 h3 => (hF.look i j o o' t ho h1 h3 ht).elim (fun hq => h ⟨j, o', h1, hbef hq.2, h3⟩) (fun hq => absurd hq.1 (by omega))
    obtain ⟨ρL, hEL, hsame⟩ := hEx
    have hw : wantedA ops ρL o = wantedA ops (ρs i) o := (wanted_same hsame).symm
    -- makes that are ahead
    have hmi : makes C f o = true → m ≤ i := fun hmk => by
      rcases Nat.lt_or_ge i m with h | h
      · have := (hI.made i o ho hmk).2 h
        rw [hnl] at this; cases this
      · exact h
    have hahead : makes C f o = true → σs i = σs m := fun hmk => by
      have := st_const (C := C) (f := f) (call := call) (ops := ops) hst (i - m) m (by have := hmi hmk; omega) (fun j o' ho' hm' h1 h2 => by
        have hji : j < i := by have := hmi hmk; omega
        have := (hI.made j o' ho' hm').1 (hbef (hF.make i j o o' ho ho' hmk hm' hji))
        omega)
      rw [← this]; congr 1; have := hmi hmk; omega
    have hd0 : ∀ d, o.dst = some d → d < N := hd o (by rw [← hoo]; exact Array.getElem_mem_toList hlt)
    -- what comes of it
    have next : ∀ (c' : Cx) (y : Value) (w' : World), Fwd base c c' w w' → Inv C.T base c' (if makes C f o = true then σs (i + 1) else σs m) w' → RepT C.T c' (vs i) y →
        (turns C f o = false → makes C f o = true → ∀ id ob, (σs m).obj id = some ob → (σs (i + 1)).obj id = some ob) → K (a.put o.dst y) w' := by
      intro c' y w' hf hinv hr hmono
      refine hK (if makes C f o = true then i + 1 else m) c' _ w' ⟨by rw [Array.size_setIfInBounds, hI.size], fun k' o' ho' hl e he hb => ?_, fun j o' ho' hm' => ?_, ?_, fun j o' d ho' hl hd' => ?_, fun t hn => ?_, ?_, hI.fwd.trans hf, (put_size a _ _).2.trans hI.defers, (put_size a _ _).1.trans hI.tmps, fun t ht hnt id ob hob => ?_⟩
      · rw [hls]
        split
        · rfl
        · rw [hls] at hl
          split at hl
          · rename_i hk'
            subst hk'
            rw [ho] at ho'
            cases ho'
            exact hedge e he hb
          · exact hI.closed k' o' ho' hl e he hb
      · rw [hls]
        by_cases hmk : makes C f o = true
        · rw [if_pos hmk]
          by_cases hji : j = i
          · rw [if_pos hji]; simp [hji]
          · rw [if_neg hji]
            constructor
            · intro hl
              have := (hI.made j o' ho' hm').1 hl
              have := hmi hmk
              omega
            · intro hlt'
              exact hbef (hF.make i j o o' ho ho' hmk hm' (by omega))
        · rw [if_neg hmk]
          by_cases hji : j = i
          · subst hji
            rw [ho] at ho'
            cases ho'
            exact absurd hm' hmk
          · rw [if_neg hji]; exact hI.made j o' ho' hm'
      · split
        · omega
        · exact hI.le
      · rw [hls] at hl
        by_cases hji : j = i
        · subst hji
          rw [ho] at ho'
          cases ho'
          rw [hd', getD_put a (by rw [hI.tmps]; exact hd0 d hd'), if_pos rfl]
          exact hr
        · rw [if_neg hji] at hl
          have := (hI.env1 j o' d ho' hl hd').ext hf.ext
          cases hdo : o.dst with
          | none => exact this
          | some d' =>
            rw [getD_put a (by rw [hI.tmps]; exact hd0 d' hdo), if_neg (fun e => hji (hF.dst j i o' o d ho' ho hd' (by rw [hdo, e])))]
            exact this
      · have h2 := (hI.env2 t fun j o' ho' hl hd' => hn j o' ho' (by rw [hls]; split <;> first | rfl | exact hl) hd').ext hf.ext
        cases hdo : o.dst with
        | none => exact h2
        | some d' =>
          rw [getD_put a (by rw [hI.tmps]; exact hd0 d' hdo), if_neg (fun e => hn i o ho (by rw [hls, if_pos rfl]) (by rw [hdo, e]))]
          exact h2
      · split at hinv
        · rename_i h; rw [if_pos h]; exact hinv
        · rename_i h; rw [if_neg h]; exact hinv
      · by_cases hmk : makes C f o = true
        · rw [if_pos hmk] at ht hnt ⊢
          have hmi' := hmi hmk
          have hcon : ∀ t, m ≤ t → t ≤ i → σs t = σs m := fun t h1 h2 => by
            have := st_const (C := C) (f := f) (call := call) (ops := ops) hst (t - m) m (by omega) (fun j o' ho' hm' g1 g2 => by
              have := (hI.made j o' ho' hm').1 (hbef (hF.make i j o o' ho ho' hmk hm' (by omega)))
              omega)
            rw [← this]; congr 1; omega
          by_cases hti : t = i + 1
          · subst hti; exact hob
          · have hto : turns C f o = false := hnt i o ho (by omega) (by omega)
            refine hmono hto hmk id ob ?_
            by_cases htm : t ≤ m
            · exact hI.mono t htm (fun j o' ho' g1 g2 => hnt j o' ho' g1 (by omega)) id ob hob
            · rw [hcon t (by omega) (by omega)] at hob; exact hob
        · rw [if_neg hmk] at ht hnt ⊢
          exact hI.mono t ht hnt id ob hob
    unfold wpOp
    rw [ho]
    simp only
    rcases hs with ⟨hwt, hs⟩ | ⟨hwf, hv, hs⟩
    · rw [wanted_run hEL (hw.trans hwt), if_pos rfl]
      refine .inl ?_
      rcases hs with ⟨hmk, hnv, he⟩ | ⟨hmk, he⟩
      · rw [hahead hmk] at he
        have he0 := he
        rw [eval_same hsame] at he
        refine op_sound hT hC hEL hI.inv (fun _ _ h => h) (fun _ => rfl) he fun c' y w' h1 h2 h3 => next c' y w' h1 (by rw [if_pos hmk]; exact h2) h3 fun hto _ id ob hob => ?_
        exact mono_op hC.still hto hnv he0 (fun id ob h => (hI.inv.obj id ob h).1) id ob hob hmk
      · rw [eval_same hsame] at he
        have he := (quiet_any hmk he).2 (σs m)
        have fin : ∀ {σr : St}, evalOp C call f true ρL σr (σs m) o = some (vs i, σs m) → (∀ id ob, σr.obj id = some ob → (σs m).obj id = some ob) → o.wp P a w K (Post C base c0 w0 N D k r) := fun he hσ =>
          op_sound hT hC hEL hI.inv hσ (fun h => by cases h) he fun c' y w' h1 h2 h3 => next c' y w' h1 (by rw [if_neg (by rw [hmk]; simp)]; exact h2) h3 fun _ h => by rw [hmk] at h; cases h
        cases hto : touches o with
        | true =>
          obtain ⟨σr, he', hσr⟩ := hQ i o listed m c a w ρL ho hI hnl hedge hmk hto hEL hsame he
          exact fin he' hσr
        | false =>
          rw [touch_any hto (bs i) (σs m)] at he
          exact fin he fun _ _ h => h
    · rw [wanted_run hEL (hw.trans hwf), if_neg (by simp)]
      refine next c undef w (.refl _ _ _) ?_ (by rw [hv]; exact mk_unit) fun _ hmk id ob hob => ?_
      · split
        · rename_i hmk; rw [hs, hahead hmk]; exact hI.inv
        · exact hI.inv
      · rw [hs, hahead hmk]; exact hob
  intro fuel
  induction fuel with
  | zero =>
    intro listed m c a w hcnt hI
    have hr : Region.ready .any ops listed = [] := by
      cases hr : Region.ready .any ops listed with
      | nil => rfl
      | cons i l =>
        exfalso
        have hi : i ∈ Region.ready .any ops listed := by rw [hr]; simp
        unfold Region.ready at hi
        obtain ⟨hi1, hi2⟩ := List.mem_filter.1 hi
        have hlt : i < listed.size := by rw [hI.size]; exact List.mem_range.1 hi1
        simp only [Bool.and_eq_true, Bool.not_eq_true'] at hi2
        have : listed[i] = false := by
          have := hi2.1
          rw [Array.getD_eq_getD_getElem?, Array.getElem?_eq_getElem hlt] at this
          exact this
        have hmem : false ∈ listed.toList := by rw [← this]; exact Array.getElem_mem_toList hlt
        have := List.count_pos_iff.2 hmem
        omega
    exact ⟨hr, hfin _ _ _ _ _ hI hr⟩
  | succ fuel ih =>
    intro listed m c a w hcnt hI
    refine ⟨hfin _ _ _ _ _ hI, fun i hi => hstep listed m c a w i _ hI hi fun m' c' a' w' hI' => ih _ m' c' a' w' ?_ hI'⟩
    unfold Region.ready at hi
    obtain ⟨hi1, hi2⟩ := List.mem_filter.1 hi
    have hlt : i < listed.size := by rw [hI.size]; exact List.mem_range.1 hi1
    simp only [Bool.and_eq_true, Bool.not_eq_true'] at hi2
    have hf : listed[i] = false := by
      have := hi2.1
      rw [Array.getD_eq_getD_getElem?, Array.getElem?_eq_getElem hlt] at this
      exact this
    have hl : i < listed.toList.length := by simpa using hlt
    rw [Array.toList_setIfInBounds, List.count_set hl]
    have hmem : false ∈ listed.toList := by rw [← hf]; exact Array.getElem_mem_toList hlt
    have := List.count_pos_iff.2 hmem
    have hx : listed.toList[i] = false := by simpa using hf
    rw [hx, if_pos (by rfl : ((false == false) = true)), if_neg (by simp)]
    omega
end
theorem walkEq {α : Type} (g : Nat → α) {a b : Nat} (hab : a ≤ b) (h : ∀ k, a ≤ k → k < b → g (k + 1) = g k) : g b = g a := by
  obtain ⟨n, rfl⟩ : ∃ n, b = a + n := ⟨b - a, by omega⟩
  induction n with
  | zero => rfl
  | succ n ih => rw [show a + (n + 1) = a + n + 1 by omega, h _ (by omega) (by omega), ih (by omega) (fun k h1 h2 => h k h1 (by omega))]
theorem pureL_all : ∀ {l : List AV}, (∀ v ∈ l, pure1 v = true) → pureL l = true
  | [], _ => rfl
  | v :: l, h => by simp only [pureL, h v (by simp), Bool.true_and]; exact pureL_all fun u hu => h u (by simp [hu])
mutual
theorem freeze_any (a b : St) : ∀ v : AV, pure1 v = true → freeze a v = freeze b v
  | .agg t vs, h => by simp only [pure1] at h; simp only [freeze, freezeL_any a b vs h]
  | .list _ _ _ _, _ => by simp only [freeze]
  | .fptr _ _, _ => by simp only [freeze]
  | .bool _, _ => by simp only [freeze]
  | .int _ _, _ => by simp only [freeze]
  | .str _, _ => by simp only [freeze]
  | .mt _, _ => by simp only [freeze]
  | .nilp, _ => by simp only [freeze]
  | .nilf, _ => by simp only [freeze]
  | .nilm, _ => by simp only [freeze]
  | .nili, _ => by simp only [freeze]
  | .view .., h => by simp [pure1] at h
  | .ptr .., h => by simp [pure1] at h
  | .map _, h => by simp [pure1] at h
  | .func .., h => by simp [pure1] at h
  | .tup _, h => by simp [pure1] at h
  | .undef, h => by simp [pure1] at h
  | .iface .., h => by simp [pure1] at h
theorem freezeL_any (a b : St) : ∀ l : List AV, pureL l = true → freezeL a l = freezeL b l
  | [], _ => rfl
  | v :: l, h => by
    simp only [pureL, Bool.and_eq_true] at h
    simp only [freezeL, freeze_any a b v h.1, freezeL_any a b l h.2]
end
theorem noPtr_pure : ∀ {l : List AV}, pureL l = true → noPtr l = true
  | [], _ => rfl
  | v :: l, h => by
    simp only [pureL, Bool.and_eq_true] at h
    cases v with
    | ptr => simp [pure1] at h
    | agg t vs =>
      cases vs with
      | nil => rfl
      | cons u us =>
        cases u with
        | ptr => simp [pure1, pureL] at h
        | _ => rfl
    | _ => rfl
theorem callVal_any {call : Caller} {q : Bool} {m : Mem} {g : FuncId} {args : List AV} (h : pureL args = true) (a b : St) : @callVal call q ⟨a⟩ m g args = @callVal call q ⟨b⟩ m g args := by
  unfold callVal
  rw [noPtr_pure h, if_pos rfl, if_pos rfl]
  show (freezeL a args).bind _ = (freezeL b args).bind _
  rw [freezeL_any a b args h]
theorem callCalm_any {call : Caller} {m : Mem} {g : FuncId} {args : List AV} (h : pureL args = true) (a b : St) : @callCalm call ⟨a⟩ m g args = @callCalm call ⟨b⟩ m g args := by
  unfold callCalm
  split
  · show (freezeL a args).bind _ = (freezeL b args).bind _
    rw [freezeL_any a b args h]
  · rfl
theorem last_turn {σs bs : Nat → St} {σ : St} (b0 : bs 0 = σ) (s0 : σs 0 = σ) (hbs : ∀ i o, ops.toList[i]? = some o → bs (i + 1) = if turns C f o = true then σs (i + 1) else bs i) :
    ∀ i, i ≤ ops.size → ∃ t, t ≤ i ∧ bs i = σs t ∧ (∀ j o, ops[j]? = some o → t ≤ j → j < i → turns C f o = false) ∧ (0 < t → ∃ o, ops[t - 1]? = some o ∧ turns C f o = true)
  | 0, _ => ⟨0, Nat.le_refl _, by rw [b0, s0], fun _ _ _ _ h => absurd h (Nat.not_lt_zero _), fun h => absurd h (Nat.lt_irrefl _)⟩
  | i + 1, hi => by
    obtain ⟨t, h1, h2, h3, h4⟩ := last_turn b0 s0 hbs i (by omega)
    have ho : ops[i]? = some ops[i] := Array.getElem?_eq_getElem (by omega)
    have hb := hbs i _ (by rw [Array.getElem?_toList]; exact ho)
    cases ht : turns C f ops[i] with
    | true => exact ⟨i + 1, Nat.le_refl _, by rw [hb, ht, if_pos rfl], fun j o _ g1 g2 => by omega, fun _ => ⟨_, ho, ht⟩⟩
    | false =>
      refine ⟨t, by omega, by rw [hb, ht, if_neg (by simp), h2], fun j o hj g1 g2 => ?_, h4⟩
      by_cases hji : j = i
      · subst hji; rw [ho] at hj; cases hj; exact ht
      · exact h3 j o hj g1 (by omega)
theorem draw_two (hT : TabOk P C.T) (hm : P.follows .mixedOrders = true) (hC : CallOk P C call) (hG : GlobOk C.T c0) (id : Nat) (ops : Array Oper) (k : Ex → Env → St → Option R) (c : Cx) (ρ : Env) (σ : St) (a : Act) (w : World) (hd : dstsOk N ops.toList)
    (hok : drawOk C f ops = true ∧ evalQ C call f ops σ ops.toList ρ σ (k .normal) = some r ∨ drawOkA C f ops = true ∧ evalQ C call f ops σ ops.toList ρ σ (fun ρ' σ' => @br R (aliasOk (aliasPairs ops) ρ') ⟨k .normal ρ' σ'⟩ ⟨none⟩) = some r) (hR : Rel C base c0 w0 N D c ρ σ a w) :
    wpAny P .any ops (Post C base c0 w0 N D k r) ops.size (Array.replicate ops.size false) a { w with drawn := w.drawn + 1 } := by
  have hfalse : ∀ j, (Array.replicate ops.size false).getD j false = false := fun j => by
    rw [Array.getD_eq_getD_getElem?, Array.getElem?_replicate]; split <;> rfl
  have nl : ∀ {j : Nat} {p : Prop}, (Array.replicate ops.size false).getD j false = true → p := fun h => by rw [hfalse] at h; cases h
  have start : ∀ {σs : Nat → St} {vs : Nat → AV}, σs 0 = σ → DInv C f ops base c0 w0 N D ρ σ σs vs (Array.replicate ops.size false) 0 c a w.drew := fun s0 =>
    ⟨by simp, fun _ _ _ h => nl h, fun j o _ _ => ⟨fun h => nl h, fun h => absurd h (Nat.not_lt_zero _)⟩, Nat.zero_le _, fun _ _ _ _ h => nl h, fun t _ => hR.env.1 t, by rw [s0]; exact hR.inv.heap rfl, hR.fwd.trans ⟨.refl _, (Below.refl _ _).drew, fun _ _ _ => rfl, fun _ _ => rfl⟩, hR.defers, hR.size, fun t ht _ id ob h => by
      have h0 : t = 0 := Nat.le_zero.1 ht
      subst h0
      exact h⟩
  rcases hok with ⟨hok, h⟩ | ⟨hok, h⟩
  · simp only [drawOk, Bool.and_eq_true] at hok
    have hF := drawFacts hok.1
    obtain ⟨ρs, σs, vs, bs, e0, s0, b0, hk, hst⟩ := traceQ ops.toList σ ρ σ h
    rw [Array.length_toList] at hk
    refine draw_run hF e0 (fun i o ho => (hst i o ho).1) ?_ hT hC hG hd hk ops.size _ 0 c a _ (by simp) (start s0)
    intro i o listed m c a w ρL ho hI hnl hedge hmk hto hEL hsame he
    have hlt : i < ops.size := (Array.getElem?_eq_some_iff.1 ho).1
    obtain ⟨t, h1, h2, h3, h4⟩ := last_turn b0 s0 (fun i o ho => (hst i o ho).2) i (Nat.le_of_lt hlt)
    have hbef : ∀ {j : Nat}, ((Region.before ops).getD i 0).testBit j = true → listed.getD j false = true := fun h => before_listed (L := fun j => listed.getD j false = true) hI.closed i ho hedge h
    have hafter : ∀ {j : Nat} {o' : Oper}, ops[j]? = some o' → listed.getD j false = true → ((Region.before ops).getD j 0).testBit i = true → False := fun ho' hl hb => by
      have := before_listed (L := fun j => listed.getD j false = true) hI.closed _ ho' (hI.closed _ _ ho' hl) hb
      rw [hnl] at this; cases this
    have hne : ∀ {j : Nat} {o' : Oper}, ops[j]? = some o' → turns C f o' = true → j ≠ i := fun ho' ht' e => by
      subst e
      rw [ho] at ho'
      cases ho'
      rw [turns_makes ht'] at hmk; cases hmk
    have htm : t ≤ m := by
      rcases Nat.eq_zero_or_pos t with h0 | h0
      · omega
      · obtain ⟨o', ho', ht'⟩ := h4 h0
        rcases drawTurn_at hok.2 ho' ho ht' (hne ho' ht') hto hmk with ⟨g1, _⟩ | ⟨g1, g2⟩
        · omega
        · have := (hI.made _ o' ho' (turns_makes ht')).1 (hbef g2)
          omega
    refine ⟨bs i, he, fun id ob hob => ?_⟩
    rw [h2] at hob
    refine hI.mono t htm (fun j o' ho' g1 g2 => ?_) id ob hob
    cases ht' : turns C f o' with
    | false => rfl
    | true =>
      exfalso
      have hl := (hI.made j o' ho' (turns_makes ht')).2 g2
      rcases drawTurn_at hok.2 ho' ho ht' (hne ho' ht') hto hmk with ⟨q1, q2⟩ | ⟨q1, q2⟩
      · exact hafter ho' hl q2
      · rw [h3 j o' ho' g1 q1] at ht'; cases ht'
  · simp only [drawOkA, Bool.and_eq_true] at hok
    have hF := drawFacts hok.1
    obtain ⟨ρs, σs, vs, bs, e0, s0, b0, hk, hst⟩ := traceQ ops.toList σ ρ σ h
    rw [Array.length_toList] at hk
    have hal := hok.2
    have hst0 := fun i o ho => (hst i o ho).1
    cases hao : aliasOk (aliasPairs ops) (ρs ops.size) with
    | false => rw [hao] at hk; cases hk
    | true =>
    rw [hao, br_true] at hk
    have hearly : ∀ {i : Nat} {t : Tmp}, early ops i t = true → ∀ (j : Nat) (o' : Oper), ops[j]? = some o' → o'.dst = some t → j < i := by
      intro i t h j o' ho' hd
      have := List.all_eq_true.1 h (o', j) (zip_mem ho')
      simpa [hd] using this
    have hstore : ∀ (k : Nat) (o' : Oper), ops[k]? = some o' → makes C f o' = true → ∃ ty a x, o'.op = .store ty (.tmp a) x ∧ (k, a) ∈ storeTs ops ∧ early ops k a = true := by
      intro k o' ho' hm'
      have h1 := List.all_eq_true.1 hal (o', k) (zip_mem ho')
      simp only [Bool.and_eq_true, hm', Bool.not_true, Bool.false_or] at h1
      have h2 := h1.1
      split at h2
      · rename_i ty a x hop
        refine ⟨ty, a, x, hop, List.mem_filterMap.2 ⟨(o', k), zip_mem ho', ?_⟩, h2⟩
        simp only [hop]
      · cases h2
    have hlt' : ∀ {k j : Nat} {o' : Oper}, ops[k]? = some o' → ((Region.before ops).getD k 0).testBit j = true → j < k := fun {k j o'} ho' g => before_listed (L := fun j => j < k) (fun q o ho hq e he hb => by
        rcases hF.edge q o ho e he with r | r
        · omega
        · rw [r] at hb; cases hb) k ho' (fun e he hb => by
        rcases hF.edge k o' ho' e he with r | r
        · exact r
        · rw [r] at hb; cases hb) g
    refine draw_run hF e0 hst0 ?_ hT hC hG hd hk ops.size _ 0 c a _ (by simp) (start s0)
    intro i o listed m c a w ρL ho hI hnl hedge hmk hto hEL hsame he
    have hlt : i < ops.size := (Array.getElem?_eq_some_iff.1 ho).1
    obtain ⟨t, h1, h2, h3, h4⟩ := last_turn b0 s0 (fun i o ho => (hst i o ho).2) i (Nat.le_of_lt hlt)
    have hbef : ∀ {j : Nat}, ((Region.before ops).getD i 0).testBit j = true → listed.getD j false = true := fun h => before_listed (L := fun j => listed.getD j false = true) hI.closed i ho hedge h
    have hafter : ∀ {j : Nat} {o' : Oper}, ops[j]? = some o' → listed.getD j false = true → ((Region.before ops).getD j 0).testBit i = true → False := fun ho' hl hb => by
      have := before_listed (L := fun j => listed.getD j false = true) hI.closed _ ho' (hI.closed _ _ ho' hl) hb
      rw [hnl] at this; cases this
    have hne : ∀ {j : Nat} {o' : Oper}, ops[j]? = some o' → makes C f o' = true → j ≠ i := fun ho' ht' e => by
      subst e
      rw [ho] at ho'
      cases ho'
      rw [ht'] at hmk; cases hmk
    have hmle := hI.le
    by_cases hall : ∀ s a, (s, a) ∈ storeTs ops → ordered ops i s = true
    case pos =>
      have hord : ∀ {j : Nat} {o' : Oper}, ops[j]? = some o' → turns C f o' = true → (j < i ∧ ((Region.before ops).getD i 0).testBit j = true) ∨ (i < j ∧ ((Region.before ops).getD j 0).testBit i = true) := by
        intro j o' ho' ht'
        obtain ⟨_, a, _, _, hmem, _⟩ := hstore j o' ho' (turns_makes ht')
        have := hall j a hmem
        simp only [ordered, Bool.or_eq_true] at this
        rcases this with g | g
        · exact .inr ⟨hlt' ho' g, g⟩
        · exact .inl ⟨hlt' ho g, g⟩
      have htm : t ≤ m := by
        rcases Nat.eq_zero_or_pos t with h0 | h0
        · omega
        · obtain ⟨o', ho', ht'⟩ := h4 h0
          rcases hord ho' ht' with ⟨g1, g2⟩ | ⟨g1, _⟩
          · have := (hI.made _ o' ho' (turns_makes ht')).1 (hbef g2)
            omega
          · omega
      refine ⟨bs i, he, fun id ob hob => ?_⟩
      rw [h2] at hob
      refine hI.mono t htm (fun j o' ho' g1 g2 => ?_) id ob hob
      cases ht' : turns C f o' with
      | false => rfl
      | true =>
        exfalso
        have hl := (hI.made j o' ho' (turns_makes ht')).2 g2
        rcases hord ho' ht' with ⟨q1, q2⟩ | ⟨q1, q2⟩
        · rw [h3 j o' ho' g1 q1] at ht'; cases ht'
        · exact hafter ho' hl q2
    obtain ⟨s, sa, hmem, hun⟩ : ∃ s a, (s, a) ∈ storeTs ops ∧ ordered ops i s = false := by
      apply Classical.byContradiction
      intro hno
      exact hall fun s a hm => by
        cases hc : ordered ops i s with
        | true => rfl
        | false => exact absurd ⟨s, a, hm, hc⟩ hno
    have hlo : lookOk C f ops o i = true := by
      have h1 := List.all_eq_true.1 hal (o, i) (zip_mem ho)
      simp only [Bool.and_eq_true, hmk, hto, Bool.not_true, Bool.false_or, Bool.or_eq_true] at h1
      rcases h1.2 with g | g
      · exact g
      · have := List.all_eq_true.1 g (s, sa) hmem
        simp only [hun] at this
        cases this
    have hfin : ∀ (x : Tmp) (i : Nat), i ≤ ops.size → (∀ (j : Nat) (o' : Oper), ops[j]? = some o' → o'.dst = some x → j < i) → ρs ops.size x = ρs i x := by
      intro x i hi hw
      obtain ⟨g1, g2⟩ := env_at hF e0 hst0 i x hi
      obtain ⟨q1, q2⟩ := env_at hF e0 hst0 ops.size x (Nat.le_refl _)
      by_cases hx : ∃ (j : Nat) (o : Oper), ops[j]? = some o ∧ o.dst = some x
      · obtain ⟨j, o, ho, hd'⟩ := hx
        rw [g1 j o ho hd' (hw j o ho hd'), q1 j o ho hd' (Array.getElem?_eq_some_iff.1 ho).1]
      · rw [g2 fun j (o : Oper) ho _ hd' => hx ⟨j, o, ho, hd'⟩, q2 fun j (o : Oper) ho _ hd' => hx ⟨j, o, ho, hd'⟩]
    have hpair : ∀ (k : Nat) (ak : Tmp), (k, ak) ∈ storeTs ops → ordered ops i k = false → k ≠ i → ∀ p, p ∈ aliasOf ops o i k ak → (if p.1 = p.2 then pure1 (ρs ops.size p.1) else apart (ρs ops.size p.1) (ρs ops.size p.2)) = true := by
      intro k ak hm' _ _ p hp
      exact List.all_eq_true.1 hao p (List.mem_flatMap.2 ⟨(o, i), zip_mem ho, List.mem_flatMap.2 ⟨(k, ak), hm', hp⟩⟩)
    have hcond : ∀ k, ordered ops i k = false → k ≠ i → (decide (k = i) || !touches o || ordered ops i k) = false := fun k h1 h2 => by simp [h1, h2, hto]
    have hsi : s ≠ i := by
      obtain ⟨⟨os, is⟩, hz, hf⟩ := List.mem_filterMap.1 hmem
      rw [List.mem_zipIdx_iff_getElem?] at hz
      simp only at hf
      split at hf
      · rename_i ty a' x hop
        simp only [Option.some.injEq, Prod.mk.injEq] at hf
        obtain ⟨rfl, rfl⟩ := hf
        refine hne (o' := os) (by simpa using hz) ?_
        simp [makes, turns, hop]
      · cases hf
    have hσi : σs i = σs t := by
      have := st_const (C := C) (f := f) (call := call) (ops := ops) hst0 (i - t) t (by omega) (fun j o' ho' hm' g1 g2 => by
        obtain ⟨_, _, _, hop, _⟩ := hstore j o' ho' hm'
        have ht' : turns C f o' = true := by simp [turns, hop]
        rw [h3 j o' ho' g1 (by omega)] at ht'; cases ht')
      rw [← this]; congr 1; omega
    unfold lookOk at hlo
    cases hlk : lookAt o with
    | some tt =>
      rw [hlk] at hlo
      simp only at hlo
      have hwr := hearly hlo
      have hlop := lookAt_op hlk
      have et := hfin tt i (Nat.le_of_lt hlt) hwr
      have htl : tt ∈ o.looksAt ops := by
        unfold Oper.looksAt
        rcases hlop with ⟨ty, hop⟩ | ⟨ty, xi, ok, hop⟩ <;> exact List.mem_append_left _ (List.mem_filterMap.2 ⟨.tmp tt, by rw [hop]; simp [Op.operands], rfl⟩)
      rw [hsame tt htl] at et
      have hunord : ∀ (k : Nat) (o' : Oper), ops[k]? = some o' → makes C f o' = true → ((i ≤ k ∧ k < m) ∨ (m ≤ k ∧ k < i)) → ordered ops i k = false := by
        intro k o' ho' hm' hw
        cases hc : ordered ops i k with
        | false => rfl
        | true =>
          exfalso
          simp only [ordered, Bool.or_eq_true] at hc
          rcases hc with g | g
          · rcases hw with ⟨w1, w2⟩ | ⟨w1, w2⟩
            · exact hafter ho' ((hI.made k o' ho' hm').2 w2) g
            · have := hlt' ho' g; omega
          · rcases hw with ⟨w1, w2⟩ | ⟨w1, w2⟩
            · have := hlt' ho g; omega
            · have := (hI.made k o' ho' hm').1 (hbef g); omega
      have hobj : ∀ idL, ((∃ s' path, ρL tt = .ptr s' idL path) ∨ ρL tt = .map idL) → ∀ k, k < ops.size → ((i ≤ k ∧ k < m) ∨ (m ≤ k ∧ k < i)) → (σs (k + 1)).obj idL = (σs k).obj idL := by
        intro idL hp k hk hw
        have ho' : ops[k]? = some ops[k] := Array.getElem?_eq_getElem hk
        cases hm' : makes C f ops[k] with
        | false =>
          have := st_const (C := C) (f := f) (call := call) (ops := ops) hst0 1 k (by omega) (fun j o' hj hmj g1 g2 => by
            obtain rfl : j = k := by omega
            rw [ho'] at hj; cases hj
            rw [hm'] at hmj; cases hmj)
          rw [this]
        | true =>
          obtain ⟨ty, ak, x, hop, hmk', hea⟩ := hstore k _ ho' hm'
          have hki := hne ho' hm'
          have hu := hunord k _ ho' hm' hw
          have ea := hfin ak k (Nat.le_of_lt hk) (hearly hea)
          have hpq := hpair k ak hmk' hu hki (ak, tt) (by
            unfold aliasOf
            rw [hcond k hu hki, if_neg (by simp), hlk]
            simp)
          simp only at hpq
          rw [ea, et] at hpq
          obtain ⟨hstep, _⟩ := hst0 k ops[k] (by rw [Array.getElem?_toList]; exact ho')
          generalize hso : ops[k] = so at hop hstep hm'
          rcases hstep with ⟨_, ⟨_, _, hev⟩ | ⟨hm2, _⟩⟩ | ⟨_, _, hsk⟩
          · obtain ⟨d, op, oty, pos, af, gd⟩ := so
            simp only at hop
            subst hop
            simp only [evalOp, Bool.false_eq_true, if_false] at hev
            obtain ⟨σ2, hst3, hev⟩ := Option.map_eq_some_iff.1 hev
            simp only [Prod.mk.injEq] at hev
            obtain ⟨_, rfl⟩ := hev
            rw [show val (ρs k) (.tmp ak) = ρs k ak from rfl] at hst3
            generalize val (ρs k) x = y at hst3
            cases hp2 : ρs k ak with
            | ptr s2 id2 path2 =>
              rw [hp2] at hpq hst3
              have hne2 : id2 ≠ idL := by
                split at hpq
                · simp [pure1] at hpq
                · rcases hp with ⟨_, _, hp⟩ | hp <;> rw [hp] at hpq <;> simpa [apart] using hpq
              simp only [aStore] at hst3
              split at hst3
              · split at hst3
                · obtain ⟨us, _, hus⟩ := Option.map_eq_some_iff.1 hst3
                  rw [← hus]
                  show (if idL = id2 then _ else (σs k).obj idL) = _
                  rw [if_neg (fun e => hne2 e.symm)]
                · cases hst3
              · cases hst3
            | _ => rw [hp2] at hst3; simp [aStore] at hst3
          · rw [hm'] at hm2; cases hm2
          · rw [hsk]
      have hmi : ∀ idL, ((∃ s' path, ρL tt = .ptr s' idL path) ∨ ρL tt = .map idL) → (σs m).obj idL = (σs t).obj idL := by
        intro idL hp
        rw [← hσi]
        have hh := hobj idL hp
        rcases Nat.le_total i m with g | g
        · exact walkEq (fun k => (σs k).obj idL) g fun k g1 g2 => hh k (by omega) (.inl ⟨g1, g2⟩)
        · exact (walkEq (fun k => (σs k).obj idL) g fun k g1 g2 => hh k (by omega) (.inr ⟨g1, g2⟩)).symm
      refine ⟨σs m, ?_, fun _ _ h => h⟩
      rw [← he]
      obtain ⟨d, op, oty, pos, af, gd⟩ := o
      rcases hlop with ⟨ty, hop⟩ | ⟨ty, xi, ok, hop⟩
      · simp only at hop
        subst hop
        simp only [evalOp, val]
        congr 1
        rw [h2]
        cases hp : ρL tt with
        | ptr s' idL path =>
          have hq := hmi idL (.inl ⟨_, _, hp⟩)
          simp only [aLoad]
          rw [hq]
        | _ => rfl
      · simp only at hop
        subst hop
        simp only [evalOp]
        congr 1
        rw [h2]
        have hv : val ρL (.tmp tt) = ρL tt := rfl
        rw [hv]
        have hm : ∀ (kt vt : TypeId), @mapOf ⟨σs m⟩ kt vt (ρL tt) = @mapOf ⟨σs t⟩ kt vt (ρL tt) := by
          intro kt vt
          cases hp : ρL tt with
          | map idL =>
            have hq := hmi idL (.inr hp)
            simp only [mapOf]
            rw [hq]
          | _ => rfl
        simp only [aLookup, hm]
    | none =>
      rw [hlk] at hlo
      simp only at hlo
      refine ⟨σs m, ?_, fun _ _ h => h⟩
      rw [← he]
      obtain ⟨d, op, oty, pos, af, gd⟩ := o
      simp only at hlo
      split at hlo
      · rename_i cl
        obtain ⟨callee, args, tys⟩ := cl
        simp only at hlo
        split at hlo
        · rename_i bb
          cases bb <;> first | (simp [minMax] at hlo; done) | skip
          all_goals
            simp only [evalOp, evalBuiltin]
            try (split <;> rfl)
        · rename_i g
          simp only [Bool.and_eq_true, Bool.not_eq_true'] at hlo
          obtain ⟨⟨⟨hv, hro⟩, hat⟩, hae⟩ := hlo
          have hpu : pureL (args.toList.map (val ρL)) = true := by
            refine pureL_all fun v hv' => ?_
            obtain ⟨x, hx, rfl⟩ := List.mem_map.1 hv'
            have hxt := List.all_eq_true.1 hat x hx
            cases x with
            | tmp tx =>
              have htx : tx ∈ argTmps ⟨.value (.func g), args, tys⟩ := List.mem_filterMap.2 ⟨.tmp tx, hx, rfl⟩
              have hex := List.all_eq_true.1 hae tx htx
              have hpq := hpair s sa hmem hun hsi (tx, tx) (by
                unfold aliasOf
                rw [hcond s hun hsi, if_neg (by simp), hlk]
                exact List.mem_map.2 ⟨tx, htx, rfl⟩)
              simp only [if_true] at hpq
              rw [hfin tx i (Nat.le_of_lt hlt) (hearly hex)] at hpq
              have htl : tx ∈ (⟨d, .call ⟨.value (.func g), args, tys⟩, oty, pos, af, gd⟩ : Oper).looksAt ops := by
                unfold Oper.looksAt
                refine List.mem_append_left _ (List.mem_filterMap.2 ⟨.tmp tx, ?_, rfl⟩)
                simp [Op.operands, Call.operands, hx]
              rw [hsame tx htl] at hpq
              exact hpq
            | _ => simp [isTmp] at hxt
          have hgv : val ρL (.func g) = .func g [] := rfl
          simp only [evalOp, hgv, hro, hv, List.append_nil, Bool.false_eq_true, if_false, if_true]
          split
          · split
            · exact callCalm_any hpu _ _
            · exact callVal_any hpu _ _
          · rfl
        · cases hlo
      · cases hlo
end
end Go.Proofs.Yticlihmbikcohaa.Va
