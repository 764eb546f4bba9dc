/- a function that is ranged over, against the interpreter's -/
import Derived.Test.YticlihmbikcohaaVaRf
namespace Go.Proofs.Yticlihmbikcohaa.Va
open Go Go.RowKit
set_option linter.unusedVariables false
set_option linter.unusedSimpArgs false
def codeOf : Ex → Code | .exit i => .exit i | .ret => .ret | .normal => .skip
def recP (r0 : Loop) : Option Ex → Loop | none => r0 | some e => { r0 with state := .done, pending := some (codeOf e) }
/-- Where the function that is ranged over stands. -/
structure RelY (C : Cfg) (base : Nat) (c0 : Cx) (w0 : World) (NI : Nat) (l : Nat) (r0 : Loop) (cL : Cx) (Y : List Tmp) (c : Cx) (ρ : Env) (σ : St) (p : Option Ex) (a : Act) (w : World) : Prop where
  rel : Rel C base c0 w0 NI [] c ρ σ a w
  y : ∀ s ∈ Y, a.tmps.getD s undef = .func (.yield l) #[] #[]
  g : c.G l = some (.loop (recP r0 p))
  x : Ext cL c
  gk : ∀ b, b < l → c.G b = cL.G b
def PostY {R : Type} (C : Cfg) (base : Nat) (c0 : Cx) (w0 : World) (NI : Nat) (l : Nat) (r0 : Loop) (cL : Cx) (k : Ex → Env → St → Option Ex → Option R) (r : R) : Exit → Act → World → Prop :=
  fun e a w => ∃ e' ρ σ p c, exOf e' = e ∧ k e' ρ σ p = some r ∧ RelY C base c0 w0 NI l r0 cL [0] c ρ σ p a w
section
variable {P : Program} {C : Cfg} {call : Caller} {base : Nat} {c0 c cL : Cx} {w0 w : World} {N NI : Nat} {D : List Deferred} {R : Type} {r : R} {σ : St} {ρ ρL : Env} {a aL : Act} {l : Nat} {r0 : Loop}
theorem putPs_rep {T : Tab} {c : Cx} : ∀ {ps : List Tmp} {args : List AV} {vs : List Value} {ρ : Env} {t : Array Value}, RepEnv T c ρ { tmps := t, defers := [] } → (∀ d ∈ ps, d < t.size) → vs.length = args.length → (∀ (i : Nat) v u, args[i]? = some v → vs[i]? = some u → RepT T c v u) →
    RepEnv T c (putPs ρ ps args) { tmps := (ps.zip vs).foldl (fun t x => t.setIfInBounds x.1 x.2) t, defers := [] } ∧ ((ps.zip vs).foldl (fun t x => t.setIfInBounds x.1 x.2) t).size = t.size
  | [], args, vs, ρ, t, h, _, _, _ => ⟨by simpa [putPs] using h, by simp⟩
  | d :: ps, [], vs, ρ, t, h, _, hl, _ => by
    obtain rfl : vs = [] := List.eq_nil_of_length_eq_zero hl
    exact ⟨by simpa [putPs] using h, by simp⟩
  | d :: ps, v :: args, [], ρ, t, h, _, hl, _ => by simp at hl
  | d :: ps, v :: args, u :: vs, ρ, t, h, hd, hl, hv => by
    have h1 : RepEnv T c (putA ρ (some d) v) (Act.put { tmps := t, defers := [] } (some d) u) := put_rep h (.refl c) (hv 0 v u rfl rfl) (fun e he => by cases he; exact hd _ (by simp))
    have h2 := putPs_rep (ps := ps) (args := args) (vs := vs) (ρ := upd ρ d v) (t := t.setIfInBounds d u) (by simpa [Act.put, putA] using h1) (fun e he => by rw [Array.size_setIfInBounds]; exact hd e (by simp [he])) (by simpa using hl) (fun i v' u' h1 h2 => hv (i + 1) v' u' (by simpa using h1) (by simpa using h2))
    simp only [List.zip_cons_cons, List.foldl_cons, putPs]
    exact ⟨h2.1, h2.2.trans (by simp)⟩
theorem opWide {n : Nat} {o : Oper} {next : Act → World → Prop} {Q : Exit → Act → World → Prop} (h : o.wp P a w next Q) : o.wpIn Fence.wide n P a w next Q := by
  refine ⟨fun _ _ => trivial, ?_⟩
  have e : (Oper.semAt Fence.wide.round a.eval o) = execOp a.eval o := rfl
  rw [e]
  unfold Oper.wp at h
  generalize hr : (execOp a.eval o).run P w = q at h
  cases q with
  | ok v w' =>
    cases v <;> first | exact h | exact h.elim | skip
    · exact ⟨fun h => by simp [Fence.wide] at h, callsIn_wide.2 h⟩
    · exact ⟨fun h => by simp [Fence.wide] at h, fun b cs _ => let ⟨v, w', h1, h2⟩ := h b cs; ⟨v, w', h1, stepsIn_wide.2 h2⟩⟩
  | halt x w' => cases x <;> first | exact h | exact h.elim
/-- A round. -/
theorem round_in {n : Nat} (hT : TabOk P C.T) (hC : CallOk P C call) {f : FuncId} (hD : ∀ (base : Nat) (c0 : Cx) (w0 : World) (D : List Deferred), GlobOk C.T c0 → DrawOk P C call f base c0 w0 N D r) {ps : Array Tmp} {assign body : Code} (hpa : plainR assign = true) (hpb : plainR body = true) (hda : dstOk N assign = true) (hdb : dstOk N body = true) (hps : ∀ d ∈ ps.toList, d < N)
    (hb0 : base ≤ w0.heap.size) (hl0 : w0.heap.size ≤ l) (h1 : r0.tmps = aL.tmps) (h2 : r0.params = ps) (h3 : r0.assign = assign) (h4 : r0.body = body) (h5 : r0.state = .ready) (h6 : r0.pending = none)
    (hE : RepEnv C.T c ρL { tmps := aL.tmps, defers := [] }) (hN : aL.tmps.size = N) (hI : Inv C.T base c σ w) (hg : c.G l = some (.loop r0)) {args : List AV} {vs : Array Value} (hA : RepA C.T c args vs.toList) {kk : Ex → St → Option R}
    (h : roundK C call f ps assign body ρL args σ kk = some r) :
    vs.size = ps.size ∧ RoundIn Fence.wide n P l r0.fn ((ps.zip vs).foldl (fun t x => t.setIfInBounds x.1 x.2) aL.tmps) assign body w fun e w' => ∃ ex σ' c' p', e = .returned (.bool (decide (ex = Ex.normal))) ∧ kk ex σ' = some r ∧
      (p' = if ex = Ex.normal then none else some ex) ∧ Inv C.T base c' σ' w' ∧ Ext c c' ∧ (Fwd base c0 c w0 w → Fwd base c0 c' w0 w') ∧ c'.G l = some (.loop (recP r0 p')) ∧ ∀ b, b < l → c'.G b = c.G b := by
  unfold roundK br at h
  split at h
  rotate_left
  · cases h
  rename_i hlen
  simp only [decide_eq_true_eq] at hlen
  have hvl : vs.size = ps.size := by have := hA.1; rw [Array.length_toList] at this; omega
  refine ⟨hvl, ?_⟩
  have h : evalCode C call f assign (putPs ρL ps.toList args) σ (fun e ρ1 σ1 => @nx R e ⟨evalCode C call f body ρ1 σ1 fun e _ σ2 => kk e σ2⟩ ⟨none⟩) = some r := h
  have hzip : (ps.zip vs).foldl (fun t x => t.setIfInBounds x.1 x.2) aL.tmps = (ps.toList.zip vs.toList).foldl (fun t x => t.setIfInBounds x.1 x.2) aL.tmps := by
    rw [← Array.foldl_toList, Array.toList_zip]
  have hwl : l < w.heap.size := lt_of_some (hI.G l _ hg).heap
  obtain ⟨e1, e2⟩ := putPs_rep (ps := ps.toList) (args := args) (vs := vs.toList) hE (fun d hd => by rw [hN]; exact hps d hd) hA.1 hA.2
  rw [← hzip] at e1 e2
  refine roundIn_of_wpIn trivial ?_
  refine wpIn_mono (codeIn (n := n) (l := l) hT hC (c0 := c) (w0 := w) (D := []) (hD _ _ _ _ hE.2) assign _ hpa hda h ⟨e1, hI, .refl _ _ _, rfl, by rw [← hN]; exact e2⟩) fun e a1 w1 ⟨e', ρ1, σ1, c1, he, hk, hR1⟩ => ?_
  subst he
  cases e' with
  | exit i => cases hk
  | ret => cases hk
  | normal =>
    have hk : evalCode C call f body ρ1 σ1 (fun e _ σ2 => kk e σ2) = some r := hk
    have g1 : c1.G l = some (.loop r0) := (hR1.fwd.G l hwl).trans hg
    have hh1 := (hR1.inv.G l _ g1).heap
    refine ⟨_, run_beginRound hh1 h5, ?_⟩
    have hR2 : Rel C base (c1.setG l (.loop { r0 with state := .busy })) (w1.putObj l (.loop { r0 with state := .busy })) N [] (c1.setG l (.loop { r0 with state := .busy })) ρ1 σ1 a1 (w1.putObj l (.loop { r0 with state := .busy })) :=
      ⟨hR1.env.setG _ _, hR1.inv.setG g1 _, .refl _ _ _, hR1.defers, hR1.size⟩
    refine wpIn_mono (codeIn (n := n) (l := l) hT hC (hD _ _ _ _ hR2.env.2) body _ hpb hdb hk hR2) fun e a2 w2 ⟨e', ρ2, σ2, c2, he, hk2, hR3⟩ => ?_
    subst he
    have hw1 : l < w1.heap.size := lt_of_some hh1
    have g2 : c2.G l = some (.loop { r0 with state := .busy }) := (hR3.fwd.G l (by rw [World.putObj_size]; exact hw1)).trans (setG_at _ _ _)
    have hh2 := (hR3.inv.G l _ g2).heap
    have fin : ∀ (jump : Option Code) (p' : Option Ex), recP r0 p' = { r0 with state := if jump.isNone then .ready else .done, pending := jump } → ∃ v w', (Instr.endRound l jump).run P w2 = .ok v w' ∧ v = .bool jump.isNone ∧ ∃ c', Inv C.T base c' σ2 w' ∧ Ext c c' ∧ (Fwd base c0 c w0 w → Fwd base c0 c' w0 w') ∧ c'.G l = some (.loop (recP r0 p')) ∧ ∀ b, b < l → c'.G b = c.G b := by
      intro jump p' hp'
      refine ⟨_, _, run_endRound jump hh2, rfl, c2.setG l (.loop (recP r0 p')), ?_, ?_, ?_, setG_at _ _ _, ?_⟩
      · rw [hp']; exact hR3.inv.setG g2 _
      · exact ((hR1.fwd.ext.trans (.setG _ _ _)).trans hR3.fwd.ext).trans (.setG _ _ _)
      · intro hf
        rw [hp']
        exact Fwd.setG ((Fwd.setG (hf.trans hR1.fwd) hb0 hl0 _).trans hR3.fwd) hb0 hl0 _
      · intro b hb
        have hbw : b < w.heap.size := by omega
        rw [setG_ne _ _ (by omega), hR3.fwd.G b (by rw [World.putObj_size]; omega), setG_ne _ _ (by omega), hR1.fwd.G b hbw]
    cases e' with
    | normal =>
      obtain ⟨v, w', q1, rfl, c', q2⟩ := fin none none (by cases r0; simp_all [recP])
      exact ⟨_, w', q1, .normal, σ2, c', none, rfl, hk2, rfl, q2⟩
    | exit i =>
      obtain ⟨v, w', q1, rfl, c', q2⟩ := fin (some (.exit i)) (some (.exit i)) rfl
      exact ⟨_, w', q1, .exit i, σ2, c', some (.exit i), rfl, hk2, rfl, q2⟩
    | ret =>
      obtain ⟨v, w', q1, rfl, c', q2⟩ := fin (some .ret) (some .ret) rfl
      exact ⟨_, w', q1, .ret, σ2, c', some .ret, rfl, hk2, rfl, q2⟩
theorem getD_put_ne (a : Act) {d : Option Tmp} {s : Tmp} {y : Value} (h : d ≠ some s) : (a.put d y).tmps.getD s undef = a.tmps.getD s undef := by
  cases d with
  | none => rfl
  | some d =>
    simp only [Act.put, Array.getD_eq_getD_getElem?, Array.getElem?_setIfInBounds]
    rw [if_neg (fun e => h (by rw [e]))]
theorem getD_put_eq (a : Act) {d : Tmp} {y : Value} (h : d < a.tmps.size) : (a.put (some d) y).tmps.getD d undef = y := by
  simp [Act.put, Array.getD_eq_getD_getElem?, h]
theorem RelY.put {Y : List Tmp} {p : Option Ex} (h : RelY C base c0 w0 NI l r0 cL Y c ρ σ p a w) {c' : Cx} {σ' : St} {w' : World} (hf : Fwd base c c' w w') (hI : Inv C.T base c' σ' w') {dst : Option Tmp} {v : AV} {y : Value} (hr : RepT C.T c' v y) (hd : ∀ d, dst = some d → d < NI) (hy : ∀ d, dst = some d → d ∉ Y) :
    RelY C base c0 w0 NI l r0 cL Y c' (putA ρ dst v) σ' p (a.put dst y) w' := by
  have hl : l < w.heap.size := lt_of_some (h.rel.inv.G l _ h.g).heap
  refine ⟨h.rel.put hf hI hr hd, fun s hs => ?_, (hf.G l hl).trans h.g, h.x.trans hf.ext, fun b hb => (hf.G b (by omega)).trans (h.gk b hb)⟩
  rw [getD_put_ne a (fun e => hy s e hs)]; exact h.y s hs
theorem opsY_sound {n : Nat} (hT : TabOk P C.T) (hC : CallOk P C call) {f gf : FuncId} (hD : ∀ (base : Nat) (c0 : Cx) (w0 : World) (D : List Deferred), GlobOk C.T c0 → DrawOk P C call f base c0 w0 N D r) {ps : Array Tmp} {assign body : Code} (hpa : plainR assign = true) (hpb : plainR body = true) (hda : dstOk N assign = true) (hdb : dstOk N body = true) (hps : ∀ d ∈ ps.toList, d < N)
    (hb0 : base ≤ w0.heap.size) (hl0 : w0.heap.size ≤ l) (h1 : r0.tmps = aL.tmps) (h2 : r0.params = ps) (h3 : r0.assign = assign) (h4 : r0.body = body) (h5 : r0.state = .ready) (h6 : r0.pending = none)
    (hE : RepEnv C.T cL ρL { tmps := aL.tmps, defers := [] }) (hN : aL.tmps.size = N) {ops : Array Oper} {k : Ex → Env → St → Option Ex → Option R} :
    ∀ (os : List Oper) {Y : List Tmp} {c : Cx} {ρ : Env} {σ : St} {p : Option Ex} {a : Act} {w : World}, dstsOk NI os → 0 ∈ Y → evalOpsY C call gf ops (roundK C call f ps assign body ρL) Y os ρ σ p (k .normal) = some r → RelY C base c0 w0 NI l r0 cL Y c ρ σ p a w →
    wpListIn Fence.wide n P ops (PostY C base c0 w0 NI l r0 cL k r) os a w
  | [], Y, c, ρ, σ, p, a, w, _, h0, h, hR => wpListIn_nil ⟨.normal, ρ, σ, p, c, rfl, h, ⟨hR.rel, fun s hs => hR.y s (by rcases List.mem_singleton.1 hs with rfl; exact h0), hR.g, hR.x, hR.gk⟩⟩
  | o :: os, Y, c, ρ, σ, p, a, w, hd, h0, h, hR => by
    have hd0 : ∀ d, o.dst = some d → d < NI := hd o (by simp)
    have hd1 : dstsOk NI os := fun o' ho' => hd o' (by simp [ho'])
    simp only [evalOpsY, br] at h
    split at h
    rotate_left
    · cases h
    rename_i hdy
    have hy : ∀ d, o.dst = some d → d ∉ Y := fun d e => by rw [dstY, e] at hdy; simpa using hdy
    split at h
    · -- what is handed over is moved
      rename_i hm
      have h : evalOpsY C call gf ops (roundK C call f ps assign body ρL) (o.dst.toList ++ Y) os (putA ρ o.dst .undef) σ p (k .normal) = some r := h
      unfold mvY at hm
      split at hm
      rotate_left
      · cases hm
      rename_i s hs
      simp only [Bool.and_eq_true, List.contains_iff_mem, Option.isNone_iff_eq_none] at hm
      refine wpListIn_plain hm.1 fun K hK => ⟨fun _ _ => trivial, ?_⟩
      have e : (Oper.semAt Fence.wide.round a.eval o).run P w = .ok (.value (a.tmps.getD s undef)) w := by
        show (execOp a.eval o).run P w = _
        simp only [execOp, hs, Sem.run_pure]
        rfl
      rw [e, Oper.uponIn_value]
      refine hK _ _ (opsY_sound (c := c) hT hC hD hpa hpb hda hdb hps hb0 hl0 h1 h2 h3 h4 h5 h6 hE hN os hd1 (by simp [h0]) h ?_)
      have q := hR.put (.refl _ _ _) hR.rel.inv (dst := o.dst) (v := .undef) (y := a.tmps.getD s undef) trivial hd0 hy
      refine ⟨q.rel, fun s' hs' => ?_, q.g, q.x, q.gk⟩
      rcases List.mem_append.1 hs' with hs' | hs'
      · have e1 : o.dst = some s' := by
          cases hdst : o.dst with
          | none => rw [hdst] at hs'; cases hs'
          | some d => rw [hdst] at hs'; have hs' := List.mem_singleton.1 hs'; rw [hs']
        rw [e1, getD_put_eq a (by rw [hR.rel.size]; exact hd0 s' e1)]
        exact hR.y s hm.2
      · exact q.y s' hs'
    · replace h : (if clY Y o = true then if p.isNone = true then roundK C call f ps assign body ρL ((argsY o).map (val ρ)) σ (fun e σ' => @nx R e ⟨evalOpsY C call gf ops (roundK C call f ps assign body ρL) Y os (putA ρ o.dst (.bool true)) σ' none (k .normal)⟩ ⟨evalOpsY C call gf ops (roundK C call f ps assign body ρL) Y os (putA ρ o.dst (.bool false)) σ' (some e) (k .normal)⟩) else none
          else @sel R (wantedA ops ρ o) ⟨@bnd _ R (evalOp C call gf false ρ σ σ o) ⟨fun q => evalOpsY C call gf ops (roundK C call f ps assign body ρL) Y os (putA ρ o.dst q.1) q.2 p (k .normal)⟩⟩ ⟨evalOpsY C call gf ops (roundK C call f ps assign body ρL) Y os (putA ρ o.dst (.tup [])) σ p (k .normal)⟩) = some r := h
      split at h
      · -- a round
        rename_i hc
        split at h
        rotate_left
        · cases h
        rename_i hp
        replace hp : p = none := by simpa using hp
        subst hp
        unfold clY at hc
        split at hc
        rotate_left
        · cases hc
        rename_i cl hop
        split at hc
        rotate_left
        · cases hc
        rename_i s hcl
        simp only [Bool.and_eq_true, List.contains_iff_mem, Option.isNone_iff_eq_none] at hc
        have hargs : argsY o = cl.args.toList := by simp [argsY, hop]
        have hA : RepA C.T c ((argsY o).map (val ρ)) (cl.args.map a.eval).toList := by
          rw [hargs]
          refine ⟨by simp, fun i v u hv hu => ?_⟩
          simp only [List.getElem?_map, Option.map_eq_some_iff] at hv
          obtain ⟨x, hx, rfl⟩ := hv
          rw [Array.getElem?_toList, Array.getElem?_map, ← Array.getElem?_toList, hx] at hu
          cases hu
          exact hR.rel.env.val x
        have hg : c.G l = some (.loop r0) := hR.g
        obtain ⟨hsz, hround⟩ := round_in (n := n - 1) (c0 := c0) hT hC hD hpa hpb hda hdb hps hb0 hl0 h1 h2 h3 h4 h5 h6 (hE.ext hR.x) hN hR.rel.inv hg hA h
        refine wpListIn_plain hc.1 fun K hK => ⟨fun _ _ => trivial, ?_⟩
        have hy0 := hR.y s hc.2
        have hheap := (hR.rel.inv.G l _ hg).heap
        have e : (Oper.semAt Fence.wide.round a.eval o).run P w = .ok (.round l r0.fn ((ps.zip (cl.args.map a.eval)).foldl (fun t x => t.setIfInBounds x.1 x.2) aL.tmps) assign body) w := by
          show (execOp a.eval o).run P w = _
          have hev : a.eval (.tmp s) = .func (.yield l) #[] #[] := hy0
          have hry := run_yield (P := P) (args := cl.args.map a.eval) hheap (by rw [h2]; exact hsz)
          rw [h1, h2, h3, h4] at hry
          simp only [execOp, hop, resolve, hcl, hev, Deferred.ofValue, Sem.run_bind, Sem.run_pure, Result.andThen_ok, invoke]
          simpa using hry
        rw [e, Oper.uponIn_round]
        refine ⟨fun h => by simp [Fence.wide] at h, hround.mono ?_⟩
        rintro e' w' ⟨ex, σ', c', p', rfl, hk, hp', hI', hx', hf', hg', hgk'⟩
        show K (a.put o.dst (.bool (decide (ex = Ex.normal)))) w'
        have hRel : RelY C base c0 w0 NI l r0 cL Y c' (putA ρ o.dst (.bool (decide (ex = Ex.normal)))) σ' p' (a.put o.dst (.bool (decide (ex = Ex.normal)))) w' := by
          refine ⟨⟨put_rep hR.rel.env hx' (mk_bool _) (by rw [hR.rel.size]; exact hd0), hI', hf' hR.rel.fwd, (put_size a _ _).2.trans hR.rel.defers, (put_size a _ _).1.trans hR.rel.size⟩, fun s' hs' => ?_, hg', hR.x.trans hx', fun b hb => (hgk' b hb).trans (hR.gk b hb)⟩
          rw [getD_put_ne a (fun e => hy s' e hs')]; exact hR.y s' hs'
        cases ex with
        | normal =>
          subst hp'
          exact hK _ _ (opsY_sound hT hC hD hpa hpb hda hdb hps hb0 hl0 h1 h2 h3 h4 h5 h6 hE hN os hd1 h0 hk hRel)
        | exit i =>
          subst hp'
          exact hK _ _ (opsY_sound hT hC hD hpa hpb hda hdb hps hb0 hl0 h1 h2 h3 h4 h5 h6 hE hN os hd1 h0 hk hRel)
        | ret =>
          subst hp'
          exact hK _ _ (opsY_sound hT hC hD hpa hpb hda hdb hps hb0 hl0 h1 h2 h3 h4 h5 h6 hE hN os hd1 h0 hk hRel)
      · -- as anywhere
        simp only [sel] at h
        refine wpListIn_step fun K hK => ?_
        cases hw : wantedA ops ρ o with
        | none => rw [hw] at h; cases h
        | some t =>
          rw [hw] at h
          rw [wanted_run hR.rel.env hw]
          cases t with
          | true =>
            rw [if_pos rfl]
            cases he : evalOp C call gf false ρ σ σ o with
            | none => simp only [he, bnd, Lz.get] at h; cases h
            | some q =>
              obtain ⟨v, σ'⟩ := q
              simp only [he, bnd, Lz.get, Kt.go] at h
              exact opWide (op_sound hT hC hR.rel.env hR.rel.inv (fun _ _ h => h) (fun _ => rfl) he (fun c' y w' g1 g2 g3 => hK _ _ (opsY_sound hT hC hD hpa hpb hda hdb hps hb0 hl0 h1 h2 h3 h4 h5 h6 hE hN os hd1 h0 h (hR.put g1 g2 g3 hd0 hy))))
          | false =>
            rw [if_neg (by simp)]
            simp only [Lz.get] at h
            exact ⟨fun _ _ => trivial, hK _ _ (opsY_sound hT hC hD hpa hpb hda hdb hps hb0 hl0 h1 h2 h3 h4 h5 h6 hE hN os hd1 h0 h (hR.put (.refl _ _ _) hR.rel.inv mk_unit hd0 hy))⟩
theorem loopY_sound {x : Code} {B : Env → St → Option Ex → (Ex → Env → St → Option Ex → Option R) → Option R} {k : Ex → Env → St → Option Ex → Option R}
    (hx : ∀ (k : Ex → Env → St → Option Ex → Option R) {c : Cx} {ρ : Env} {σ : St} {p : Option Ex} {a : Act} {w : World}, B ρ σ p k = some r → RelY C base c0 w0 NI l r0 cL [0] c ρ σ p a w → x.wp P (PostY C base c0 w0 NI l r0 cL k r) a w) :
    ∀ (n : Nat) {c : Cx} {ρ : Env} {σ : St} {p : Option Ex} {a : Act} {w : World}, iterY B n ρ σ p k = some r → RelY C base c0 w0 NI l r0 cL [0] c ρ σ p a w →
      ∀ (b : Frame) (kk : List Item) (cs : List Frame), ∃ e a' w', PostY C base c0 w0 NI l r0 cL k r e a' w' ∧ Arrives P (lone (b.at a (.code x :: .inLoop x :: kk)) cs w) b kk cs e a' w'
  | 0, c, ρ, σ, p, a, w, h, _ => by cases h
  | n + 1, c, ρ, σ, p, a, w, h, hR => by
    intro b kk cs
    simp only [iterY] at h
    obtain ⟨e, a₁, w₁, ⟨e', ρ', σ', p', c', he, hk, hR'⟩, harr⟩ := hx _ h hR b (.inLoop x :: kk) cs
    subst he
    cases e' with
    | normal =>
      have hk : iterY B n ρ' σ' p' k = some r := hk
      obtain ⟨e₂, a₂, w₂, hq₂, harr₂⟩ := loopY_sound hx n hk hR' b kk cs
      exact ⟨e₂, a₂, w₂, hq₂, .of_steps (Steps.trans harr (.one step_inLoop)) harr₂⟩
    | exit id => exact ⟨_, a₁, w₁, ⟨_, ρ', σ', p', c', rfl, hk, hR'⟩, .pass (x := .inLoop x) rfl (fun _ _ => .inl (by simp [exOf])) harr⟩
    | ret => exact ⟨_, a₁, w₁, ⟨_, ρ', σ', p', c', rfl, hk, hR'⟩, .pass (x := .inLoop x) rfl (fun _ _ => .inl (by simp [exOf])) harr⟩
theorem codeY_sound (hT : TabOk P C.T) (hC : CallOk P C call) {f gf : FuncId} (hD : ∀ (base : Nat) (c0 : Cx) (w0 : World) (D : List Deferred), GlobOk C.T c0 → DrawOk P C call f base c0 w0 N D r) {ps : Array Tmp} {assign body : Code} (hpa : plainR assign = true) (hpb : plainR body = true) (hda : dstOk N assign = true) (hdb : dstOk N body = true) (hps : ∀ d ∈ ps.toList, d < N)
    (hb0 : base ≤ w0.heap.size) (hl0 : w0.heap.size ≤ l) (h1 : r0.tmps = aL.tmps) (h2 : r0.params = ps) (h3 : r0.assign = assign) (h4 : r0.body = body) (h5 : r0.state = .ready) (h6 : r0.pending = none)
    (hE : RepEnv C.T cL ρL { tmps := aL.tmps, defers := [] }) (hN : aL.tmps.size = N) :
    ∀ (x : Code) (k : Ex → Env → St → Option Ex → Option R) {c : Cx} {ρ : Env} {σ : St} {p : Option Ex} {a : Act} {w : World}, dstOk NI x = true → evalY C call gf (roundK C call f ps assign body ρL) x ρ σ p k = some r → RelY C base c0 w0 NI l r0 cL [0] c ρ σ p a w →
    x.wp P (PostY C base c0 w0 NI l r0 cL k r) a w
  | .skip, k, c, ρ, σ, p, a, w, _, h, hR => wp_skip ⟨.normal, ρ, σ, p, c, rfl, h, hR⟩
  | .region id ops draw, k, c, ρ, σ, p, a, w, hd, h, hR => by
    have hd' : dstsOk NI ops.toList := fun o ho d hdo => by
      have := List.all_eq_true.1 hd o ho
      rw [hdo] at this
      simpa using this
    cases draw with
    | true => cases h
    | false =>
      have h : evalOpsY C call gf ops (roundK C call f ps assign body ρL) [0] ops.toList ρ σ p (k .normal) = some r := h
      exact wpIn_wide.1 (wpIn_region_list (opsY_sound (n := 0) hT hC hD hpa hpb hda hdb hps hb0 hl0 h1 h2 h3 h4 h5 h6 hE hN _ hd' (by simp) h hR))
  | .seq x y, k, c, ρ, σ, p, a, w, hd, h, hR => by
    simp only [dstOk, Bool.and_eq_true] at hd
    simp only [evalY] at h
    refine wp_seq (wp_mono (codeY_sound hT hC hD hpa hpb hda hdb hps hb0 hl0 h1 h2 h3 h4 h5 h6 hE hN x _ hd.1 h hR) fun e a' w' ⟨e', ρ', σ', p', c', he, hk, hR'⟩ => ?_)
    subst he
    cases e' with
    | normal => exact codeY_sound hT hC hD hpa hpb hda hdb hps hb0 hl0 h1 h2 h3 h4 h5 h6 hE hN y k hd.2 hk hR'
    | exit id => exact ⟨_, ρ', σ', p', c', rfl, hk, hR'⟩
    | ret => exact ⟨_, ρ', σ', p', c', rfl, hk, hR'⟩
  | .cond cd x y, k, c, ρ, σ, p, a, w, hd, h, hR => by
    simp only [dstOk, Bool.and_eq_true] at hd
    simp only [evalY, brV] at h
    split at h
    · rename_i t hv
      have hx := hR.rel.env.val cd
      rw [hv] at hx
      have hx := rep_bool hx
      cases t with
      | true => exact wp_cond hx (codeY_sound hT hC hD hpa hpb hda hdb hps hb0 hl0 h1 h2 h3 h4 h5 h6 hE hN x k hd.1 h hR)
      | false => exact wp_cond hx (codeY_sound hT hC hD hpa hpb hda hdb hps hb0 hl0 h1 h2 h3 h4 h5 h6 hE hN y k hd.2 h hR)
    · cases h
  | .block id x, k, c, ρ, σ, p, a, w, hd, h, hR => by
    simp only [evalY] at h
    refine wp_block (wp_mono (codeY_sound hT hC hD hpa hpb hda hdb hps hb0 hl0 h1 h2 h3 h4 h5 h6 hE hN x _ hd h hR) fun e a' w' ⟨e', ρ', σ', p', c', he, hk, hR'⟩ => ?_)
    subst he
    cases e' with
    | normal => exact ⟨_, ρ', σ', p', c', rfl, hk, hR'⟩
    | exit i =>
      show (if i = id then PostY C base c0 w0 NI l r0 cL k r .normal a' w' else PostY C base c0 w0 NI l r0 cL k r (.exit i) a' w')
      have hk : k (if i = id then .normal else .exit i) ρ' σ' p' = some r := hk
      split at hk
      · rename_i hi
        rw [if_pos hi]; exact ⟨.normal, ρ', σ', p', c', rfl, hk, hR'⟩
      · rename_i hi
        rw [if_neg hi]; exact ⟨.exit i, ρ', σ', p', c', rfl, hk, hR'⟩
    | ret => exact ⟨_, ρ', σ', p', c', rfl, hk, hR'⟩
  | .loop x, k, c, ρ, σ, p, a, w, hd, h, hR => by
    simp only [evalY] at h
    intro b kk cs
    obtain ⟨e, a', w', hq, harr⟩ := loopY_sound (x := x) (fun k {c ρ σ p a w} hB hR => codeY_sound hT hC hD hpa hpb hda hdb hps hb0 hl0 h1 h2 h3 h4 h5 h6 hE hN x k hd hB hR) _ h hR b kk cs
    exact ⟨e, a', w', hq, .of_steps (.one step_loop) harr⟩
  | .exit id, k, c, ρ, σ, p, a, w, _, h, hR => wp_exit ⟨.exit id, ρ, σ, p, c, rfl, h, hR⟩
  | .ret, k, c, ρ, σ, p, a, w, _, h, hR => wp_ret ⟨.ret, ρ, σ, p, c, rfl, h, hR⟩
end
end Go.Proofs.Yticlihmbikcohaa.Va
