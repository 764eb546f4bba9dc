/- calls, against the interpreter's -/
import Derived.Test.YticlihmbikcohaaVaW
import Derived.Test.YticlihmbikcohaaVaPk
namespace Go.Proofs.Yticlihmbikcohaa.Va
open Go Go.RowKit
set_option linter.unusedVariables false
set_option linter.unusedSimpArgs false

def RepA (T : Tab) (c : Cx) (args : List AV) (vs : List Value) : Prop := vs.length = args.length ∧ ∀ (i : Nat) v u, args[i]? = some v → vs[i]? = some u → RepT T c v u
/-- A call comes to an end, as R says. -/
def Goes (P : Program) (f : FuncId) (vs : Array Value) (w : World) (R : Value → World → Prop) : Prop :=
  ((callFunc f vs).run P w = .ok (.enter f vs) w ∧ Calls P f vs w fun e w' => ∃ y, e = .returned y ∧ R y w') ∨ ∃ y w', (callFunc f vs).run P w = .ok (.value y) w' ∧ R y w'
structure CallOk (P : Program) (C : Cfg) (call : Caller) : Prop where
  still : Still C call
  run : ∀ ⦃base : Nat⦄ ⦃c : Cx⦄ ⦃σ : St⦄ ⦃w : World⦄ (f : FuncId) (args : List AV) (vs : Array Value) (v : AV) (σ' : St), GlobOk C.T c → Inv C.T base c σ w → (C.isVal f = true → σ = St.empty) → call f args σ = some (v, σ') → RepA C.T c args vs.toList →
    Goes P (f % 1000000) vs w fun y w' => ∃ c', Fwd base c c' w w' ∧ Inv C.T base c' σ' w' ∧ RepT C.T c' v y
theorem Goes.mono {P : Program} {f : FuncId} {vs : Array Value} {w : World} {R R' : Value → World → Prop} (h : Goes P f vs w R) (hr : ∀ y w', R y w' → R' y w') : Goes P f vs w R' := by
  rcases h with ⟨h1, h2⟩ | ⟨y, w', h1, h2⟩
  · exact .inl ⟨h1, h2.mono fun e w' ⟨y, he, hR⟩ => ⟨y, he, hr _ _ hR⟩⟩
  · exact .inr ⟨y, w', h1, hr _ _ h2⟩
section
variable {P : Program} {T : Tab} {base : Nat} {c c' : Cx} {σ : St} {w w' : World}
/-- What is below the heap's size has not turned. -/
theorem Inv.far (h : Inv T base c σ w) (hb : Below w.heap.size w w') : Inv T base c σ w' where
  next := h.next
  ntok := h.ntok
  le := Nat.le_trans h.le hb.size
  F := fun b o v hv => by rw [cell_same (hb.block b (lt_of_cell (h.F b o v hv)))]; exact h.F b o v hv
  obj := fun id ob ho => by
    obtain ⟨h1, h2, h3, h4⟩ := h.obj id ob ho
    exact ⟨h1, h2, h3, by rw [hb.block _ h4.lt]; exact h4⟩
  inj := h.inj
  tok := fun t ht => by
    obtain ⟨h1, h2⟩ := h.tok t ht
    exact ⟨h1, h2.keep (fun g hg => hb.block g (h2.lt hg).1) (fun _ _ _ => rfl)⟩
  tokObj := h.tokObj
  tokTok := h.tokTok
  G := fun b o hg => let q := h.G b o hg; ⟨by rw [hb.block b (lt_of_some q.heap)]; exact q.heap, q.F, q.obj, q.tok⟩
/- without memory: so for all -/
mutual
theorem RepV.noMem {T : Tab} : ∀ {c c' : Cx} {d : Ty} {v : AV} {cs : List Value}, RepV T c d v cs → noMem v = true → RepV T c' d v cs
  | _, _, _, _, _, .bool _ b, _ => .bool _ b
  | _, _, _, _, _, .int _ k n, _ => .int _ k n
  | _, _, _, _, _, .str _ s, _ => .str _ s
  | _, _, _, _, _, .agg _ t d ts vs cs ht hd h, hp => .agg _ t d ts vs cs ht hd (h.noMem (by simpa [noMem] using hp))
  | _, _, _, _, _, .mt _ e b a h, _ => .mt _ e b a h
  | _, _, _, _, _, .list0 .., hp => by simp [Va.noMem] at hp
  | _, _, _, _, _, .list .., hp => by simp [Va.noMem] at hp
  | _, _, _, _, _, .view .., hp => by simp [Va.noMem] at hp
  | _, _, _, _, _, .nilp _, _ => .nilp _
  | _, _, _, _, _, .ptr .., hp => by simp [Va.noMem] at hp
  | _, _, _, _, _, .fptr .., hp => by simp [Va.noMem] at hp
  | _, _, _, _, _, .nilf _, _ => .nilf _
  | _, _, _, _, _, .func .., hp => by simp [Va.noMem] at hp
  | _, _, _, _, _, .nilm _ k v, _ => .nilm _ k v
  | _, _, _, _, _, .map .., hp => by simp [Va.noMem] at hp
  | _, _, _, _, _, .nili _, _ => .nili _
theorem RepL.noMem {T : Tab} : ∀ {c c' : Cx} {ts : List TypeId} {vs : List AV} {cs : List Value}, RepL T c ts vs cs → noMemL vs = true → RepL T c' ts vs cs
  | _, _, _, _, _, .nil _, _ => .nil _
  | _, _, _, _, _, .cons _ t d ts v vs cs ds ht h hs, hp => by
    simp only [noMemL, Bool.and_eq_true] at hp
    exact .cons _ t d ts v vs cs ds ht (h.noMem hp.1) (hs.noMem hp.2)
end
theorem noMemL_get : ∀ {vs : List AV} {i : Nat} {v : AV}, noMemL vs = true → vs[i]? = some v → noMem v = true
  | v :: vs, 0, u, h, hi => by
    simp only [noMemL, Bool.and_eq_true] at h
    simp only [List.getElem?_cons_zero, Option.some.injEq] at hi
    subst hi; exact h.1
  | v :: vs, i + 1, u, h, hi => by
    simp only [noMemL, Bool.and_eq_true] at h
    exact noMemL_get h.2 (by simpa using hi)
theorem pureL_get : ∀ {vs : List AV} {i : Nat} {v : AV}, pureL vs = true → vs[i]? = some v → pure1 v = true
  | v :: vs, 0, u, h, hi => by
    simp only [pureL, Bool.and_eq_true] at h
    simp only [List.getElem?_cons_zero, Option.some.injEq] at hi
    subst hi; exact h.1
  | v :: vs, i + 1, u, h, hi => by
    simp only [pureL, Bool.and_eq_true] at h
    exact pureL_get h.2 (by simpa using hi)
theorem Rep1.noMem {v : AV} {x : Value} (h : Rep1 T c v x) (hp : noMem v = true) : Rep1 T c' v x := let ⟨d, h1, h2⟩ := h; ⟨d, h1.noMem hp, h2⟩
theorem RepT.noMem {v : AV} {x : Value} (h : RepT T c v x) (hp : noMem v = true) : RepT T c' v x := by
  cases v with
  | undef => trivial
  | tup vs =>
    obtain ⟨ws, h1, h2, h3⟩ := h
    exact ⟨ws, h1, h2, fun i v w hv hw => (h3 i v w hv hw).noMem (noMemL_get (by simpa [Va.noMem] using hp) hv)⟩
  | _ => exact Rep1.noMem h hp
theorem Rep1.close {v : AV} {x : Value} (h : Rep1 T c v x) (hp : pure1 v = true) : Rep1 T c.closed v x := let ⟨d, h1, h2⟩ := h; ⟨d, h1.close hp, h2⟩
theorem RepT.pure1 {v : AV} {x : Value} (h : RepT T c v x) (hp : pure1 v = true) : Rep1 T c.closed v x := by
  cases v with
  | undef => simp [Va.pure1] at hp
  | tup vs => simp [Va.pure1] at hp
  | _ => exact Rep1.close h hp
theorem Rep1.any {v : AV} {x : Value} (h : Rep1 T c.closed v x) (hF : ∀ b o u, c.F b o = some u → c'.F b o = some u) : Rep1 T c' v x := h.ext (.of_closed hF)
/-- What a call of a function of values knows: its arguments' cells. -/
def Cx.frozen (c : Cx) (w : World) (ids : List Nat) : Cx := { c with next := 0, ntok := 0, G := fun _ => none, F := fun b o => if ids.any (fun i => c.μ i == b) = true then w.cell? ⟨b, o, none⟩ else c.F b o }
theorem frozen_F (hI : Inv T base c σ w) {ids : List Nat} {b o : Nat} {v : Value} (h : c.F b o = some v) : (c.frozen w ids).F b o = some v := by
  simp only [Cx.frozen]
  split
  · exact hI.F b o v h
  · exact h
theorem Inv.frozen (hI : Inv T base c σ w) (ids : List Nat) : Inv T w.heap.size (c.frozen w ids) St.empty w where
  next := rfl
  ntok := rfl
  le := Nat.le_refl _
  F := fun b o v hv => by
    simp only [Cx.frozen] at hv
    split at hv
    · exact hv
    · exact hI.F b o v hv
  obj := fun id ob ho => by cases ho
  inj := fun i j oi oj hi => by cases hi
  tok := fun t ht => by cases ht
  tokObj := fun t id ob ht => by cases ht
  tokTok := fun t t' ht => by cases ht
  G := fun b o hg => by cases hg
mutual
theorem freeze_rep (hT : TabOk P T) (hI : Inv T base c σ w) {σr : St} (hσ : ∀ i ob, σr.obj i = some ob → σ.obj i = some ob) {ids : List Nat} : ∀ {v u : AV} {d : Ty} {cs : List Value}, freeze σr v = some u → (∀ i, i ∈ viewIds v → i ∈ ids) → RepV T c d v cs → RepV T (c.frozen w ids) d u cs ∧ aggA u = aggA v
  | .bool b, u, d, cs, h, _, hr => by simp only [freeze, Option.some.injEq] at h; subst h; cases hr; exact ⟨.bool _ b, rfl⟩
  | .int k n, u, d, cs, h, _, hr => by simp only [freeze, Option.some.injEq] at h; subst h; cases hr; exact ⟨.int _ k n, rfl⟩
  | .str s, u, d, cs, h, _, hr => by simp only [freeze, Option.some.injEq] at h; subst h; cases hr; exact ⟨.str _ s, rfl⟩
  | .mt b, u, d, cs, h, _, hr => by simp only [freeze, Option.some.injEq] at h; subst h; cases hr with | mt _ e _ a ha => exact ⟨.mt _ e b a ha, rfl⟩
  | .nilp, u, d, cs, h, _, hr => by simp only [freeze, Option.some.injEq] at h; subst h; cases hr; exact ⟨.nilp _, rfl⟩
  | .nilf, u, d, cs, h, _, hr => by simp only [freeze, Option.some.injEq] at h; subst h; cases hr; exact ⟨.nilf _, rfl⟩
  | .nilm, u, d, cs, h, _, hr => by simp only [freeze, Option.some.injEq] at h; subst h; cases hr with | nilm _ k v => exact ⟨.nilm _ k v, rfl⟩
  | .nili, u, d, cs, h, _, hr => by simp only [freeze, Option.some.injEq] at h; subst h; cases hr; exact ⟨.nili _, rfl⟩
  | .fptr t v, u, d, cs, h, _, hr => by
    simp only [freeze, Option.some.injEq] at h; subst h
    have hx : Ext c.closed (c.frozen w ids) := .of_closed fun b o v hv => frozen_F hI hv
    exact ⟨(hr.close rfl).ext hx, rfl⟩
  | .list e n xs tok, u, d, cs, h, _, hr => by
    simp only [freeze, Option.some.injEq] at h; subst h
    have hx : Ext c.closed (c.frozen w ids) := .of_closed fun b o v hv => frozen_F hI hv
    have hp : pure1 (.list e n xs (if fullT tok = true then tok else none)) = true := by
      simp only [Va.pure1]
      split <;> first | assumption | rfl
    refine ⟨RepV.ext (c := c.closed) ?_ hx, rfl⟩
    refine RepV.close ?_ hp
    cases hr with
    | list0 _ _ _ a cap _ ha hk =>
      refine .list0 _ e n a cap _ ha ?_
      split
      · exact hk
      · trivial
    | list _ _ _ cs b o cap _ hL hF hne hcap hk =>
      refine .list _ e xs cs b o cap _ hL hF hne hcap ?_
      split
      · exact hk
      · trivial
  | .agg t vs, u, d, cs, h, hv, hr => by
    simp only [freeze] at h
    cases hf : freezeL σr vs with
    | none => rw [hf] at h; cases h
    | some us =>
      rw [hf] at h
      simp only [Option.map_some, Option.some.injEq] at h
      subst h
      cases hr with
      | agg _ _ _ ts _ _ ht hd hL =>
        exact ⟨.agg _ t d ts us cs ht hd (freezeL_rep hT hI hσ hf (by simpa [viewIds] using hv) hL), rfl⟩
  | .view e id p off len, u, d, cs, h, hv, hr => by
    simp only [freeze] at h
    obtain ⟨xs, hxs, h⟩ := Option.bind_eq_some_iff.1 h
    split at h
    · rename_i hp
      simp only [Option.some.injEq] at h; subst h
      have hI' : Inv T base c { σ with obj := σr.obj } w := hI.weak rfl rfl hσ (fun _ h => h)
      have hxs' : @sliceOf ⟨{ σ with obj := σr.obj }⟩ (.view e id p off len) = some xs := hxs
      have hx1 : ∃ x, cs = [x] ∧ RepT T c (.view e id p off len) x := by
        cases hr with
        | view _ _ _ _ _ _ o cap hi hl hcap => exact ⟨_, rfl, _, .view c e id p off len o cap hi hl hcap, rfl⟩
      obtain ⟨x, rfl, hrx⟩ := hx1
      obtain ⟨o, cap0, e0, hi, hl, hcap0⟩ := rep_view hrx
      obtain ⟨a, cap, cs', e1, hcap, hL, hnil, hcell⟩ := slice_read hT hI' hxs' hrx
      rw [e0] at e1
      injection e1 with e1 e2 e3
      subst e1 e3
      have hL := hL e rfl
      have hx : Ext c.closed (c.frozen w ids) := .of_closed fun b o v hv => frozen_F hI hv
      have hd : d = .slice e := by cases hr; rfl
      subst hd
      rw [e0, e2]
      by_cases hne : xs = []
      · subst hne
        exact ⟨.list0 _ e false _ cap0 none (by simp) trivial, rfl⟩
      · obtain ⟨b', o', e5, hc⟩ := hcell hne
        cases e5
        refine ⟨.list _ e xs cs' _ _ cap0 none ((hL.close hp).ext ⟨Nat.le_refl _, Nat.le_refl _, fun i hi => absurd hi (Nat.not_lt_zero _), fun i hi => absurd hi (Nat.not_lt_zero _), fun i hi => absurd hi (Nat.not_lt_zero _), fun b o v hv => frozen_F hI hv⟩) (fun j v hj => ?_) hne (by rw [← e2]; exact hcap0) trivial, rfl⟩
        have : ids.any (fun i => c.μ i == c.μ id) = true := List.any_eq_true.2 ⟨id, hv id (by simp [viewIds]), by simp⟩
        show (if ids.any (fun i => c.μ i == c.μ id) = true then _ else _) = some v
        rw [if_pos this]
        exact hc j v hj
    · cases h
  | .undef, u, d, cs, h, _, hr => by simp [freeze] at h
  | .tup vs, u, d, cs, h, _, hr => by simp [freeze] at h
  | .ptr t i p, u, d, cs, h, _, hr => by simp [freeze] at h
  | .func f cp, u, d, cs, h, _, hr => by simp [freeze] at h
  | .map i, u, d, cs, h, _, hr => by simp [freeze] at h
  | .iface t v, u, d, cs, h, _, hr => by simp [freeze] at h
theorem freezeL_rep (hT : TabOk P T) (hI : Inv T base c σ w) {σr : St} (hσ : ∀ i ob, σr.obj i = some ob → σ.obj i = some ob) {ids : List Nat} : ∀ {vs us : List AV} {ts : List TypeId} {cs : List Value}, freezeL σr vs = some us → (∀ i, i ∈ viewIdsL vs → i ∈ ids) → RepL T c ts vs cs → RepL T (c.frozen w ids) ts us cs
  | [], us, ts, cs, h, _, hr => by simp only [freezeL, Option.some.injEq] at h; subst h; cases hr; exact .nil _
  | v :: vs, us, ts, cs, h, hv, hr => by
    simp only [freezeL] at h
    split at h
    · rename_i u us' h1 h2
      simp only [Option.some.injEq] at h; subst h
      cases hr with
      | cons _ t d ts _ _ c1 c2 ht hr1 hr2 =>
        exact .cons _ t d ts u us' c1 c2 ht (freeze_rep hT hI hσ h1 (fun i hi => hv i (by simp [viewIdsL, hi])) hr1).1 (freezeL_rep hT hI hσ h2 (fun i hi => hv i (by simp [viewIdsL, hi])) hr2)
    · cases h
end
theorem freeze_one {σr : St} {v u : AV} (h : freeze σr v = some u) : v ≠ .undef ∧ ∀ vs, v ≠ .tup vs := by
  constructor
  · rintro rfl; simp [freeze] at h
  · intro vs e; subst e; simp [freeze] at h
theorem RepT.one {v : AV} {x : Value} (h : RepT T c v x) (hv : v ≠ .undef ∧ ∀ vs, v ≠ .tup vs) : Rep1 T c v x := by
  cases v with
  | undef => exact absurd rfl hv.1
  | tup vs => exact absurd rfl (hv.2 vs)
  | _ => exact h
theorem freeze1 (hT : TabOk P T) (hI : Inv T base c σ w) {σr : St} (hσ : ∀ i ob, σr.obj i = some ob → σ.obj i = some ob) {ids : List Nat} {v u : AV} {x : Value} (h : freeze σr v = some u) (hv : ∀ i, i ∈ viewIds v → i ∈ ids) (hr : Rep1 T c v x) : Rep1 T (c.frozen w ids) u x := by
  obtain ⟨d, h1, h2⟩ := hr
  obtain ⟨g1, g2⟩ := freeze_rep hT hI hσ h hv h1
  exact ⟨d, g1, h2.trans g2.symm⟩
theorem freezeL_get {σr : St} : ∀ {vs us : List AV}, freezeL σr vs = some us → us.length = vs.length ∧ ∀ (i : Nat) v u, vs[i]? = some v → us[i]? = some u → freeze σr v = some u
  | [], us, h => by simp only [freezeL, Option.some.injEq] at h; subst h; exact ⟨rfl, fun i v u hv => by simp at hv⟩
  | v :: vs, us, h => by
    simp only [freezeL] at h
    split at h
    · rename_i u us' h1 h2
      simp only [Option.some.injEq] at h; subst h
      obtain ⟨g1, g2⟩ := freezeL_get h2
      refine ⟨by simp [g1], fun i v' u' hv hu => ?_⟩
      cases i with
      | zero => simp only [List.getElem?_cons_zero, Option.some.injEq] at hv hu; subst hv hu; exact h1
      | succ i => exact g2 i v' u' (by simpa using hv) (by simpa using hu)
    · cases h
theorem viewIdsL_mem : ∀ {vs : List AV} {i : Nat} {v : AV}, vs[i]? = some v → ∀ k, k ∈ viewIds v → k ∈ viewIdsL vs
  | v :: vs, 0, u, h, k, hk => by
    simp only [List.getElem?_cons_zero, Option.some.injEq] at h; subst h
    simp [viewIdsL, hk]
  | v :: vs, i + 1, u, h, k, hk => by
    have := viewIdsL_mem (vs := vs) (i := i) (by simpa using h) k hk
    simp [viewIdsL, this]
theorem freezeA (hT : TabOk P T) (hI : Inv T base c σ w) {σr : St} (hσ : ∀ i ob, σr.obj i = some ob → σ.obj i = some ob) {args us : List AV} {vs : List Value} (h : freezeL σr args = some us) (hA : RepA T c args vs) : RepA T (c.frozen w (viewIdsL args)) us vs := by
  obtain ⟨g1, g2⟩ := freezeL_get h
  refine ⟨hA.1.trans g1.symm, fun i u x hu hx => ?_⟩
  have hlt : i < args.length := by rw [← g1]; exact (List.getElem?_eq_some_iff.1 hu).1
  have hv : args[i]? = some args[i] := List.getElem?_eq_getElem hlt
  have hf := g2 i _ u hv hu
  exact (freeze1 hT hI hσ hf (viewIdsL_mem hv) ((hA.2 i _ x hv hx).one (freeze_one hf))).toT
theorem killAll_obj : ∀ (ids : List Nat) (σ : St) (i : Nat) (ob : AObj), (killAll σ ids).obj i = some ob → σ.obj i = some ob ∧ i ∉ ids
  | [], σ, i, ob, h => ⟨h, by simp⟩
  | k :: r, σ, i, ob, h => by
    obtain ⟨h1, h2⟩ := killAll_obj r (σ.kill k) i ob h
    simp only [St.kill] at h1
    split at h1
    · cases h1
    · exact ⟨h1, by simp [*]⟩
theorem killAll_next : ∀ (ids : List Nat) (σ : St), (killAll σ ids).next = σ.next ∧ (killAll σ ids).ntok = σ.ntok ∧ (killAll σ ids).live = σ.live
  | [], σ => ⟨rfl, rfl, rfl⟩
  | k :: r, σ => killAll_next r (σ.kill k)
mutual
theorem freeze_obj {σr : St} : ∀ {v u : AV}, freeze σr v = some u → ∀ i ∈ viewIds v, ∃ ob, σr.obj i = some ob
  | .view e id p off len, u, h, i, hi => by
    simp only [viewIds, List.mem_singleton] at hi
    subst hi
    simp only [freeze] at h
    obtain ⟨xs, hxs, _⟩ := Option.bind_eq_some_iff.1 h
    simp only [sliceOf] at hxs
    split at hxs
    · rename_i vs ho; exact ⟨_, ho⟩
    · cases hxs
  | .agg t vs, u, h, i, hi => by
    simp only [freeze] at h
    cases hf : freezeL σr vs with
    | none => rw [hf] at h; cases h
    | some us => exact freezeL_obj hf i (by simpa [viewIds] using hi)
  | .bool b, u, h, i, hi => by simp [viewIds] at hi
  | .int k n, u, h, i, hi => by simp [viewIds] at hi
  | .str s, u, h, i, hi => by simp [viewIds] at hi
  | .mt b, u, h, i, hi => by simp [viewIds] at hi
  | .nilp, u, h, i, hi => by simp [viewIds] at hi
  | .nilf, u, h, i, hi => by simp [viewIds] at hi
  | .nilm, u, h, i, hi => by simp [viewIds] at hi
  | .nili, u, h, i, hi => by simp [viewIds] at hi
  | .fptr t v, u, h, i, hi => by simp [viewIds] at hi
  | .list e n xs tok, u, h, i, hi => by simp [viewIds] at hi
  | .undef, u, h, i, hi => by simp [viewIds] at hi
  | .tup vs, u, h, i, hi => by simp [viewIds] at hi
  | .ptr t k p, u, h, i, hi => by simp [viewIds] at hi
  | .func f cp, u, h, i, hi => by simp [viewIds] at hi
  | .map k, u, h, i, hi => by simp [viewIds] at hi
  | .iface t v, u, h, i, hi => by simp [viewIds] at hi
theorem freezeL_obj {σr : St} : ∀ {vs us : List AV}, freezeL σr vs = some us → ∀ i ∈ viewIdsL vs, ∃ ob, σr.obj i = some ob
  | [], us, h, i, hi => by simp [viewIdsL] at hi
  | v :: vs, us, h, i, hi => by
    simp only [freezeL] at h
    split at h
    · rename_i u us' h1 h2
      simp only [viewIdsL, List.mem_append] at hi
      rcases hi with hi | hi
      · exact freeze_obj h1 i hi
      · exact freezeL_obj h2 i hi
    · cases h
end
/-- What was known of blocks that were there, when views were frozen. -/
theorem frozen_below (hI : Inv T base c σ w) {ids : List Nat} (hids : ∀ i ∈ ids, ∃ ob, σ.obj i = some ob) {b : Nat} (hb : ∀ i ob, i ∈ ids → σ.obj i = some ob → c.μ i ≠ b) (o : Nat) : (c.frozen w ids).F b o = c.F b o := by
  refine if_neg fun h => ?_
  obtain ⟨i, hi, he⟩ := List.any_eq_true.1 h
  obtain ⟨ob, ho⟩ := hids i hi
  exact hb i ob hi ho (by simpa using he)
/-- A call of a function of values goes on. -/
theorem Inv.join (hI : Inv T base c σ w) {ids : List Nat} (hids : ∀ i ∈ ids, ∃ ob, σ.obj i = some ob) {c2 : Cx} {σ2 : St} (hf : Fwd w.heap.size (c.frozen w ids) c2 w w') (h2 : Inv T w.heap.size c2 σ2 w') :
    Inv T base { c with F := c2.F } (killAll σ ids) w' ∧ Fwd base c { c with F := c2.F } w w' := by
  have hFx : ∀ b o v, c.F b o = some v → c2.F b o = some v := fun b o v hv => hf.ext.F b o v (frozen_F hI hv)
  have hx : Ext c { c with F := c2.F } := ⟨Nat.le_refl _, Nat.le_refl _, fun _ _ => rfl, fun _ _ => rfl, fun _ _ => rfl, hFx⟩
  obtain ⟨k1, k2, k3⟩ := killAll_next ids σ
  have hsame : ∀ b, b < w.heap.size → (∀ i ob, i ∈ ids → σ.obj i = some ob → c.μ i ≠ b) → ∀ o, c2.F b o = c.F b o := fun b hb hne o => (hf.F b hb o).trans (frozen_below hI hids hne o)
  refine ⟨⟨hI.next.trans k1.symm, hI.ntok.trans k2.symm, Nat.le_trans hI.le hf.below.size, h2.F, ?_, ?_, ?_, ?_, ?_, fun b o hg => let q := hI.G b o hg; ⟨(hf.below.block b (lt_of_some q.heap)).trans q.heap, fun o' => (hsame b (lt_of_some q.heap) (fun i ob _ hoi e => q.obj i ob hoi e) o').trans (q.F o'), fun id ob ho => q.obj id ob (killAll_obj ids σ id ob ho).1, fun t ht => q.tok t (by rw [← k3]; exact ht)⟩⟩, hx, hf.below.mono hI.le, ?_, fun _ _ => rfl⟩
  · intro id ob ho
    obtain ⟨ho, hni⟩ := killAll_obj ids σ id ob ho
    obtain ⟨g1, g2, g3, g4⟩ := hI.obj id ob ho
    rw [k1]
    refine ⟨g1, g2, fun o => ?_, ?_⟩
    · show c2.F (c.μ id) o = none
      rw [hsame _ g4.lt (fun i oi hi hoi e => hni ((hI.inj i id oi ob hoi ho e) ▸ hi))]
      exact g3 o
    · show ObjRep T _ id ob w'.heap[c.μ id]?
      rw [hf.below.block _ g4.lt]
      exact g4.ext hx (by rw [hI.next]; exact g1)
  · intro i j oi oj hi hj he
    exact hI.inj i j oi oj (killAll_obj ids σ i oi hi).1 (killAll_obj ids σ j oj hj).1 he
  · intro t ht
    rw [k3] at ht
    obtain ⟨g1, g2⟩ := hI.tok t ht
    rw [k2]
    exact ⟨g1, g2.keep (fun b hb => hf.below.block b (g2.lt hb).1) (fun b hb o => hsame b (g2.lt hb).1 (fun i ob _ hoi e => hI.tokObj t i ob ht hoi (by rw [hb, e])) o)⟩
  · intro t id ob ht ho
    rw [k3] at ht
    exact hI.tokObj t id ob ht (killAll_obj ids σ id ob ho).1
  · intro t t' ht ht' hne b hb
    rw [k3] at ht ht'
    exact hI.tokTok t t' ht ht' hne b hb
  · intro b hb o
    exact hsame b (Nat.lt_of_lt_of_le hb hI.le) (fun i ob _ hoi e => by have := (hI.obj i ob hoi).2.1; omega) o
theorem freezeN_get {σr : St} : ∀ {vs us : List AV}, freezeN σr vs = some us → us.length = vs.length ∧ ∀ (i : Nat) v u, vs[i]? = some v → us[i]? = some u → freezeN1 σr v = some u
  | [], us, h => by simp only [freezeN, Option.some.injEq] at h; subst h; exact ⟨rfl, fun i v u hv => by simp at hv⟩
  | v :: vs, us, h => by
    simp only [freezeN] at h
    obtain ⟨u, hu, h⟩ := Option.bind_eq_some_iff.1 h
    cases hx : freezeN σr vs with
    | none => rw [hx] at h; cases h
    | some us' =>
      rw [hx] at h
      simp only [Option.map_some, Option.some.injEq] at h
      subst h
      obtain ⟨h1, h2⟩ := freezeN_get hx
      refine ⟨by simp [h1], fun i a b ha hb => ?_⟩
      cases i with
      | zero => simp only [List.getElem?_cons_zero, Option.some.injEq] at ha hb; subst ha hb; exact hu
      | succ i => exact h2 i a b (by simpa using ha) (by simpa using hb)
theorem freezeN1_obj {σr : St} {v u : AV} (h : freezeN1 σr v = some u) : ∀ i ∈ viewIds v, ∃ ob, σr.obj i = some ob := by
  cases v <;> first | exact freeze_obj h | (intro i hi; simp [viewIds] at hi)
theorem freezeN_obj {σr : St} {vs us : List AV} (h : freezeN σr vs = some us) : ∀ i ∈ viewIdsL vs, ∃ ob, σr.obj i = some ob := by
  induction vs generalizing us with
  | nil => intro i hi; simp [viewIdsL] at hi
  | cons v vs ih =>
    simp only [freezeN] at h
    obtain ⟨u, hu, h⟩ := Option.bind_eq_some_iff.1 h
    cases hx : freezeN σr vs with
    | none => rw [hx] at h; cases h
    | some us' =>
      intro i hi
      simp only [viewIdsL, List.mem_append] at hi
      rcases hi with hi | hi
      · exact freezeN1_obj hu i hi
      · exact ih hx i hi
theorem freezeN_sound (hT : TabOk P T) (hI : Inv T base c σ w) {args us : List AV} {vs : List Value} (h : freezeN σ args = some us) (hA : RepA T c args vs) :
    ∃ c', Fwd base c c' w w ∧ Inv T base c' (killAll σ (viewIdsL args)) w ∧ RepA T c' us vs := by
  have hids := freezeN_obj h
  obtain ⟨j1, j2⟩ := Inv.join hI hids (.refl _ _ _) (hI.frozen (viewIdsL args))
  obtain ⟨g1, g2⟩ := freezeN_get h
  refine ⟨_, j2, j1, by rw [hA.1, g1], fun i u x hu hx => ?_⟩
  have hlt : i < args.length := by rw [← g1]; exact (List.getElem?_eq_some_iff.1 hu).1
  have hv : args[i]? = some args[i] := List.getElem?_eq_getElem hlt
  have hr := hA.2 i _ x hv hx
  have hf := g2 i _ u hv hu
  have hx2 : Ext (c.frozen w (viewIdsL args)) { c with F := (c.frozen w (viewIdsL args)).F } := ⟨Nat.zero_le _, Nat.zero_le _, fun i hi => absurd hi (Nat.not_lt_zero _), fun i hi => absurd hi (Nat.not_lt_zero _), fun i hi => absurd hi (Nat.not_lt_zero _), fun _ _ _ h => h⟩
  have gen : ∀ {v : AV}, args[i]? = some v → freeze σ v = some u → RepT T c v x → RepT T { c with F := (c.frozen w (viewIdsL args)).F } u x := fun hv hf hr =>
    ((freeze1 hT hI (fun _ _ h => h) hf (fun k hk => viewIdsL_mem hv k hk) (hr.one (freeze_one hf))).ext hx2).toT
  generalize args[i] = v at hv hr hf
  cases v <;> first | exact gen hv hf hr | (simp only [freezeN1, Option.some.injEq] at hf; subst hf; exact hr.ext j2.ext)
theorem TokRep.up {base' : Nat} (hb : base' ≤ base) {s : Option Addr × Nat × Nat × TypeId} (h : TokRep T base c w s) (hF : c'.F = c.F) : TokRep T base' c' w s := by
  rcases h with h | ⟨b, cs, h1, h2, h3, h4, h5, h6, h7⟩
  · exact .inl h
  · exact .inr ⟨b, cs, h1, h2, h3, Nat.le_trans hb h4, h5, h6, fun o ho => by rw [hF]; exact h7 o ho⟩
/-- The result of a call of a function of values. -/
theorem retok1_sound (hI : Inv T base c σ w) {ids : List Nat} (hids : ∀ i ∈ ids, ∃ ob, σ.obj i = some ob) {c2 : Cx} {σ2 : St} (hf : Fwd w.heap.size (c.frozen w ids) c2 w w') (h2 : Inv T w.heap.size c2 σ2 w') {v r : AV} {σ' : St} (h : retok1 σ2 (killAll σ ids) v = some (r, σ')) :
    ∃ c', Fwd base c c' w w' ∧ Inv T base c' σ' w' ∧ (∀ b o u, c2.F b o = some u → c'.F b o = some u) ∧ (∀ {x : Value}, RepT T c2 v x → Rep1 T c' r x) := by
  obtain ⟨j1, j2⟩ := hI.join hids hf h2
  have gen : ∀ v : AV, (if pure1 v = true then some (v, killAll σ ids) else none) = some (r, σ') → ∃ c', Fwd base c c' w w' ∧ Inv T base c' σ' w' ∧ (∀ b o u, c2.F b o = some u → c'.F b o = some u) ∧ (∀ {x : Value}, RepT T c2 v x → Rep1 T c' r x) := fun v h => by
    split at h
    · rename_i hp
      simp only [Option.some.injEq, Prod.mk.injEq] at h
      obtain ⟨rfl, rfl⟩ := h
      exact ⟨_, j2, j1, fun _ _ _ h => h, fun hr => (hr.pure1 hp).any fun _ _ _ h => h⟩
    · cases h
  unfold retok1 at h
  split at h
  · rename_i e n xs t
    split at h
    · rename_i hl
      simp only [Option.some.injEq, Prod.mk.injEq] at h
      obtain ⟨rfl, rfl⟩ := h
      obtain ⟨g1, g2⟩ := h2.tok t hl
      have hge : ∀ b, tokBlk (c2.τ t) = some b → w.heap.size ≤ b := fun b hb => (g2.lt hb).2
      have m1 := j1.tokOnly none (g2.up (c' := { c with F := c2.F }) hI.le rfl) (fun b o hg hb => absurd (lt_of_some (hI.G b o hg).heap) (Nat.not_lt.2 (hge _ hb))) (fun id ob ho hb => by
          have := hge _ hb
          have h4 := (hI.obj id ob (killAll_obj ids σ id ob ho).1).2.2.2.lt
          exact absurd h4 (Nat.not_lt.2 this))
        (fun t' ht' _ b hb hb' => by
          have := hge _ hb
          rw [(killAll_next ids σ).2.2] at ht'
          have h4 := ((hI.tok t' ht').2.lt hb').1
          omega)
      have m2 : Ext { c with F := c2.F } (Cx.tokOnly { c with F := c2.F } (c2.τ t)) := .tokOnly _
      refine ⟨_, j2.trans ⟨m2, .refl _ _, fun _ _ _ => rfl, fun _ _ => rfl⟩, m1, fun _ _ _ h => h, fun {x} hr => ?_⟩
      have hk : ∀ {a : Option Addr} {len cap : Nat}, TokOk c2 (some (t + 1)) a len cap e → TokOk (Cx.tokOnly { c with F := c2.F } (c2.τ t)) (some ((killAll σ ids).ntok + 1)) a len cap e := fun h => by
        rw [(killAll_next ids σ).2.1, ← hI.ntok]
        exact ⟨Nat.lt_succ_self _, (if_pos rfl).trans h.2⟩
      rcases rep_list hr with ⟨rfl, a, cap, rfl, ha, hk'⟩ | ⟨hne, rfl, cs, g, o, cap, rfl, hL, hF, hcap, hk'⟩
      · exact ⟨_, .list0 _ e n a cap _ ha (hk hk'), rfl⟩
      · exact ⟨_, .list _ e xs cs g o cap _ (hL.ext ⟨Nat.le_refl _, Nat.le_refl _, fun i hi => absurd hi (Nat.not_lt_zero _), fun i hi => absurd hi (Nat.not_lt_zero _), fun i hi => absurd hi (Nat.not_lt_zero _), fun _ _ _ h => h⟩) hF hne hcap (hk hk'), rfl⟩
    · cases h
  · exact gen v h
mutual
theorem RepV.strip : ∀ {v : AV} {d : Ty} {cs : List Value}, RepV T c d v cs → RepV T c d (strip v) cs
  | .agg s vs, d, cs, h => by
    cases h with
    | agg _ _ _ ts _ _ hs hd h =>
      simp only [Va.strip]
      exact .agg _ s d ts _ _ hs hd h.strip
  | .list e n xs tok, d, cs, h => by
    simp only [Va.strip]
    cases h with
    | list0 _ _ _ a cap _ hn hk => exact .list0 c e n a cap _ hn trivial
    | list _ _ _ cs b o cap _ h hF hne hcap hk => exact .list c e xs cs b o cap _ h hF hne hcap trivial
  | .mt b, _, _, h => h
  | .undef, _, _, h => by cases h
  | .bool _, _, _, h => h
  | .int _ _, _, _, h => h
  | .str _, _, _, h => h
  | .tup _, _, _, h => by cases h
  | .view .., _, _, h => h
  | .nilp, _, _, h => h
  | .ptr .., _, _, h => h
  | .fptr .., _, _, h => h
  | .nilf, _, _, h => h
  | .func .., _, _, h => h
  | .nilm, _, _, h => h
  | .map _, _, _, h => h
  | .nili, _, _, h => h
  | .iface .., _, _, h => h
theorem RepL.strip : ∀ {vs : List AV} {ts : List TypeId} {cs : List Value}, RepL T c ts vs cs → RepL T c ts (stripL vs) cs
  | [], ts, cs, h => by cases h; exact .nil c
  | v :: vs, ts, cs, h => by
    cases h with
    | cons _ t d ts _ _ us ds ht hv hs =>
      simp only [stripL]
      exact .cons c t d ts _ _ us ds ht hv.strip hs.strip
end
theorem RepT.strip {v : AV} {x : Value} (h : RepT T c v x) : RepT T c (strip v) x := by
  cases v with
  | undef => exact h
  | tup vs => exact h
  | agg t vs => obtain ⟨d, h1, h2⟩ := h; exact ⟨d, h1.strip, h2⟩
  | list e n xs tok => obtain ⟨d, h1, h2⟩ := h; exact ⟨d, h1.strip, h2⟩
  | _ => exact h
theorem stripL_eq : ∀ (l : List AV), stripL l = l.map strip
  | [] => rfl
  | v :: l => by simp [stripL, stripL_eq l]
theorem RepA.strip {l : List AV} {us : List Value} (h : RepA T c l us) : RepA T c (stripL l) us := by
  rw [stripL_eq]
  refine ⟨by rw [List.length_map]; exact h.1, fun i v u hv hu => ?_⟩
  rw [List.getElem?_map] at hv
  cases hx : l[i]? with
  | none => rw [hx] at hv; cases hv
  | some x =>
    rw [hx] at hv
    cases hv
    exact (h.2 i x u hx hu).strip
/-- What a pointer leads to, frozen. -/
theorem freeze_ptr (hT : TabOk P T) (hI : Inv T base c σ w) {σr : St} (hσ : ∀ i ob, σr.obj i = some ob → σ.obj i = some ob) {t : TypeId} {id : Nat} {path : List Nat} {x u : AV} {y : Value} (hpk : peekAt σr id path = some x) (hfz : freeze σr x = some u) {ids : List Nat} (hin : id ∈ ids) (hx : ∀ i ∈ viewIds x, i ∈ ids) (hy : RepT T c (.ptr t id path) y) :
    ∃ b o, y = .pointer (some ⟨b, o, none⟩) ∧ RepV T (c.frozen w ids) .ptr (.fptr t u) [.pointer (some ⟨b, o, none⟩)] := by
  obtain ⟨o, rfl, hid, hl⟩ := rep_ptr hy
  unfold peekAt at hpk
  split at hpk
  · rename_i e xs ho
    have ho : σ.obj id = some (.cells e xs) := hσ _ _ ho
    obtain ⟨i1, i2, i3, he, ⟨de, hde⟩, cs, tail, hh, hcs⟩ := hI.obj id _ ho
    obtain ⟨o', t', d', us0, k1, k2, k3, k4, k5⟩ := hcs.part hT.sz hpk
    rw [he, k1] at hl
    cases hl
    have hk := (freeze_rep hT hI hσ (ids := ids) hfz hx k3).1
    refine ⟨_, _, rfl, .fptr _ t d' u us0 (c.μ id) o k2 hk (fun j v hj => ?_)⟩
    have hj' := (List.getElem?_eq_some_iff.1 hj).1
    have hany : ids.any (fun i => c.μ i == c.μ id) = true := List.any_eq_true.2 ⟨id, hin, by simp⟩
    show (if ids.any (fun i => c.μ i == c.μ id) = true then w.cell? ⟨c.μ id, o + j, none⟩ else c.F (c.μ id) (o + j)) = some v
    rw [if_pos hany]
    have h3 := k4 j hj'
    rw [hj] at h3
    simp only [World.cell?, hh, List.getElem?_toArray]
    rw [List.getElem?_append_left (List.getElem?_eq_some_iff.1 h3).1, h3]
    simp
  · cases hpk
theorem callVal_sound {C : Cfg} {call : Caller} (hT : TabOk P C.T) (hC : CallOk P C call) (hG : GlobOk C.T c) (hI : Inv C.T base c σ w) {σr : St} (hσ : ∀ i ob, σr.obj i = some ob → σ.obj i = some ob) {q : Bool} {g : FuncId} {args : List AV} {r : AV} {σ' : St} {vs : Array Value}
    (h : @callVal call q ⟨σr⟩ ⟨σ⟩ g args = some (r, σ')) (hA : RepA C.T c args vs.toList) :
    Goes P (g % 1000000) vs w fun y w' => ∃ c', Fwd base c c' w w' ∧ Inv C.T base c' σ' w' ∧ RepT C.T c' r y := by
  unfold callVal at h
  split at h
  rotate_left
  · split at h
    · rename_i t id path rest _
      obtain ⟨u, hx, h⟩ := Option.bind_eq_some_iff.1 h
      obtain ⟨x, hpk, hfz⟩ := Option.bind_eq_some_iff.1 hx
      obtain ⟨us, hu, h⟩ := Option.bind_eq_some_iff.1 h
      obtain ⟨⟨v, σ2⟩, hc, h⟩ := Option.bind_eq_some_iff.1 h
      simp only at h
      split at h
      · rename_i hn
        simp only [Option.some.injEq, Prod.mk.injEq] at h
        obtain ⟨rfl, rfl⟩ := h
        have hAA : RepA C.T (c.frozen w (id :: (viewIds x ++ viewIdsL rest))) (.fptr t u :: stripL us) vs.toList := by
          obtain ⟨h1, h2⟩ := hA
          match hvs : vs.toList with
          | [] => rw [hvs] at h1; simp at h1
          | y :: ys =>
            rw [hvs] at h1 h2
            have hrest : RepA C.T (c.frozen w (id :: (viewIds x ++ viewIdsL rest))) (stripL us) ys := by
              refine RepA.strip ?_
              obtain ⟨hl, hg⟩ := freezeL_get hu
              refine ⟨by simp at h1; omega, fun i a b ha hb => ?_⟩
              obtain ⟨v', hv'⟩ : ∃ v', rest[i]? = some v' := ⟨_, List.getElem?_eq_getElem (by have := (List.getElem?_eq_some_iff.1 ha).1; omega)⟩
              have hf := hg i v' a hv' ha
              exact (freeze1 hT hI hσ hf (fun k hk => List.mem_cons_of_mem _ (List.mem_append_right _ (viewIdsL_mem hv' k hk))) ((h2 (i + 1) v' b (by simpa using hv') (by simpa using hb)).one (freeze_one hf))).toT
            have hhead : RepT C.T (c.frozen w (id :: (viewIds x ++ viewIdsL rest))) (.fptr t u) y := by
              obtain ⟨b, o, rfl, hr⟩ := freeze_ptr hT hI hσ hpk hfz (ids := id :: (viewIds x ++ viewIdsL rest)) (List.mem_cons_self ..) (fun i hi => List.mem_cons_of_mem _ (List.mem_append_left _ hi)) (h2 0 _ _ rfl rfl)
              exact ⟨_, hr, rfl⟩
            refine ⟨by simp [hrest.1], fun i a b ha hb => ?_⟩
            cases i with
            | zero =>
              simp only [List.getElem?_cons_zero, Option.some.injEq] at ha hb
              subst ha hb
              exact hhead
            | succ i => exact hrest.2 i a b (by simpa using ha) (by simpa using hb)
        refine (hC.run g (.fptr t u :: stripL us) vs v σ2 (hG.F fun _ _ _ h => frozen_F hI h) (hI.frozen (id :: (viewIds x ++ viewIdsL rest))) (fun _ => rfl) hc hAA).mono fun y w' ⟨c2, f2, i2, r2⟩ => ?_
        exact ⟨c, ⟨.refl c, f2.below.mono hI.le, fun _ _ _ => rfl, fun _ _ => rfl⟩, hI.far f2.below, r2.noMem hn⟩
      · cases h
    · rename_i ta t id path fs rest _
      obtain ⟨u, hx, h⟩ := Option.bind_eq_some_iff.1 h
      obtain ⟨x, hpk, hfz⟩ := Option.bind_eq_some_iff.1 hx
      obtain ⟨gs, hgs, h⟩ := Option.bind_eq_some_iff.1 h
      obtain ⟨us, hu, h⟩ := Option.bind_eq_some_iff.1 h
      obtain ⟨⟨v, σ2⟩, hc, h⟩ := Option.bind_eq_some_iff.1 h
      simp only at h
      split at h
      · rename_i hn
        simp only [Option.some.injEq, Prod.mk.injEq] at h
        obtain ⟨rfl, rfl⟩ := h
        have hAA : RepA C.T (c.frozen w (id :: (viewIds x ++ (viewIdsL fs ++ viewIdsL rest)))) (.agg ta (.fptr t u :: stripL gs) :: stripL us) vs.toList := by
          obtain ⟨h1, h2⟩ := hA
          match hvs : vs.toList with
          | [] => rw [hvs] at h1; simp at h1
          | y :: ys =>
            rw [hvs] at h1 h2
            have hrest : RepA C.T (c.frozen w (id :: (viewIds x ++ (viewIdsL fs ++ viewIdsL rest)))) (stripL us) ys := by
              refine RepA.strip ?_
              obtain ⟨hl, hg⟩ := freezeL_get hu
              refine ⟨by simp at h1; omega, fun i a b ha hb => ?_⟩
              obtain ⟨v', hv'⟩ : ∃ v', rest[i]? = some v' := ⟨_, List.getElem?_eq_getElem (by have := (List.getElem?_eq_some_iff.1 ha).1; omega)⟩
              have hf := hg i v' a hv' ha
              exact (freeze1 hT hI hσ hf (fun k hk => List.mem_cons_of_mem _ (List.mem_append_right _ (List.mem_append_right _ (viewIdsL_mem hv' k hk)))) ((h2 (i + 1) v' b (by simpa using hv') (by simpa using hb)).one (freeze_one hf))).toT
            have hhead : RepT C.T (c.frozen w (id :: (viewIds x ++ (viewIdsL fs ++ viewIdsL rest)))) (.agg ta (.fptr t u :: stripL gs)) y := by
              obtain ⟨d, ts, cs, rfl, hd, hcm, hL⟩ := rep_agg (h2 0 _ _ rfl rfl)
              generalize hcs : cs.toList = cl at hL
              cases hL with
              | cons _ t0 d0 ts _ _ us0 ds ht0 hv0 hs0 =>
                obtain ⟨p0, rfl, rfl⟩ : ∃ p0, us0 = [.pointer p0] ∧ d0 = .ptr := by cases hv0; exact ⟨_, rfl, rfl⟩
                obtain ⟨b, o, he, hr⟩ := freeze_ptr hT hI hσ hpk hfz (ids := id :: (viewIds x ++ (viewIdsL fs ++ viewIdsL rest))) (List.mem_cons_self ..) (fun i hi => List.mem_cons_of_mem _ (List.mem_append_left _ hi)) (y := .pointer p0) ⟨_, hv0, rfl⟩
                cases he
                have hg := freezeL_rep hT hI hσ (ids := id :: (viewIds x ++ (viewIdsL fs ++ viewIdsL rest))) hgs (fun i hi => List.mem_cons_of_mem _ (List.mem_append_right _ (List.mem_append_left _ hi))) hs0
                have hL2 : RepL C.T (c.frozen w (id :: (viewIds x ++ (viewIdsL fs ++ viewIdsL rest)))) (t0 :: ts) (.fptr t u :: stripL gs) cs.toList := by
                  rw [hcs]
                  exact .cons _ t0 _ ts _ _ _ ds ht0 hr hg.strip
                exact mk_agg hd hcm hL2
            refine ⟨by simp [hrest.1], fun i a b ha hb => ?_⟩
            cases i with
            | zero =>
              simp only [List.getElem?_cons_zero, Option.some.injEq] at ha hb
              subst ha hb
              exact hhead
            | succ i => exact hrest.2 i a b (by simpa using ha) (by simpa using hb)
        refine (hC.run g (.agg ta (.fptr t u :: stripL gs) :: stripL us) vs v σ2 (hG.F fun _ _ _ h => frozen_F hI h) (hI.frozen (id :: (viewIds x ++ (viewIdsL fs ++ viewIdsL rest)))) (fun _ => rfl) hc hAA).mono fun y w' ⟨c2, f2, i2, r2⟩ => ?_
        exact ⟨c, ⟨.refl c, f2.below.mono hI.le, fun _ _ _ => rfl, fun _ _ => rfl⟩, hI.far f2.below, r2.noMem hn⟩
      · cases h
    · cases h
  obtain ⟨us, hu, h⟩ := Option.bind_eq_some_iff.1 h
  obtain ⟨⟨v, σ2⟩, hc, h⟩ := Option.bind_eq_some_iff.1 h
  have hids : ∀ i ∈ viewIdsL args, ∃ ob, σ.obj i = some ob := fun i hi => let ⟨ob, ho⟩ := freezeL_obj hu i hi; ⟨ob, hσ i ob ho⟩
  refine (hC.run g (stripL us) vs v σ2 (hG.F fun _ _ _ h => frozen_F hI h) (hI.frozen (viewIdsL args)) (fun _ => rfl) hc (freezeA hT hI hσ hu hA).strip).mono fun y w' ⟨c2, f2, i2, r2⟩ => ?_
  simp only at h
  split at h
  · rename_i hn
    simp only [Option.some.injEq, Prod.mk.injEq] at h
    obtain ⟨rfl, rfl⟩ := h
    exact ⟨c, ⟨.refl c, f2.below.mono hI.le, fun _ _ _ => rfl, fun _ _ => rfl⟩, hI.far f2.below, r2.noMem hn⟩
  · split at h
    · cases h
    · unfold retok at h
      split at h
      · rename_i v1 vs' _ _
        split at h
        · rename_i hp
          cases hr : retok1 σ2 (killAll σ (viewIdsL args)) v1 with
          | none => rw [hr] at h; cases h
          | some p =>
            obtain ⟨u, σ3⟩ := p
            rw [hr] at h
            simp only [Option.map_some, Option.some.injEq, Prod.mk.injEq] at h
            obtain ⟨rfl, rfl⟩ := h
            obtain ⟨c', m1, m2, m3, m4⟩ := retok1_sound hI hids f2 i2 hr
            refine ⟨c', m1, m2, ?_⟩
            obtain ⟨ws, rfl, hwl, hws⟩ := rep_tup r2
            refine ⟨ws, rfl, by simpa using hwl, fun i a b ha hb => ?_⟩
            cases i with
            | zero =>
              simp only [List.getElem?_cons_zero, Option.some.injEq] at ha
              subst ha
              exact m4 (hws 0 _ _ rfl hb).toT
            | succ i =>
              simp only [List.getElem?_cons_succ] at ha
              exact ((hws (i + 1) a b (by simpa using ha) hb).toT.pure1 (pureL_get hp ha)).any m3
        · cases h
      · obtain ⟨c', m1, m2, m3, m4⟩ := retok1_sound hI hids f2 i2 h
        exact ⟨c', m1, m2, (m4 r2).toT⟩
theorem callCalm_sound {C : Cfg} {call : Caller} (hT : TabOk P C.T) (hC : CallOk P C call) (hG : GlobOk C.T c) (hI : Inv C.T base c σ w) {σr : St} (hσ : ∀ i ob, σr.obj i = some ob → σ.obj i = some ob) {g : FuncId} {args : List AV} {r : AV} {σ' : St} {vs : Array Value}
    (h : @callCalm call ⟨σr⟩ ⟨σ⟩ g args = some (r, σ')) (hA : RepA C.T c args vs.toList) :
    Goes P (g % 1000000) vs w fun y w' => ∃ c', Fwd base c c' w w' ∧ Inv C.T base c' σ' w' ∧ RepT C.T c' r y := by
  unfold callCalm at h
  split at h
  rotate_left
  · cases h
  rename_i hc
  simp only [Bool.and_eq_true, List.isEmpty_iff] at hc
  obtain ⟨us, hu, h⟩ := Option.bind_eq_some_iff.1 h
  obtain ⟨⟨v, σ2⟩, hcl, h⟩ := Option.bind_eq_some_iff.1 h
  simp only at h
  split at h
  rotate_left
  · cases h
  rename_i hp
  simp only [Option.some.injEq, Prod.mk.injEq] at h
  obtain ⟨rfl, rfl⟩ := h
  have hids : ∀ i ∈ viewIdsL args, ∃ ob, σ.obj i = some ob := fun i hi => by rw [hc.2] at hi; cases hi
  refine (hC.run g (stripL us) vs v σ2 (hG.F fun _ _ _ h => frozen_F hI h) (hI.frozen (viewIdsL args)) (fun _ => rfl) hcl (freezeA hT hI hσ hu hA).strip).mono fun y w' ⟨c2, f2, i2, r2⟩ => ?_
  obtain ⟨j1, j2⟩ := hI.join hids f2 i2
  rw [hc.2] at j1
  refine ⟨_, j2, j1, ?_⟩
  have gen : ∀ {u : AV} {x : Value}, RepT C.T c2 u x → pure1 u = true → Rep1 C.T { c with F := c2.F } u x := fun hr hq => (hr.pure1 hq).any fun _ _ _ h => h
  have hx : ∀ {u : AV} {x : Value}, RepT C.T c2 u x → pure1 u = true → RepT C.T { c with F := c2.F } u x := fun hr hq => (gen hr hq).toT
  cases v with
  | tup ws =>
    obtain ⟨zs, h1, h2, h3⟩ := r2
    exact ⟨zs, h1, h2, fun i a b ha hb => gen (h3 i a b ha hb).toT (pureL_get (show pureL ws = true from hp) ha)⟩
  | _ => exact hx r2 hp
end
end Go.Proofs.Yticlihmbikcohaa.Va
