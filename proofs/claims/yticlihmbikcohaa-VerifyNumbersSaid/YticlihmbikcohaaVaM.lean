/- what holds of the machine's memory while the interpreter goes on -/
import Derived.Test.YticlihmbikcohaaVaI
import Derived.Below
namespace Go.Proofs.Yticlihmbikcohaa.Va
open Go Go.RowKit
set_option linter.unusedVariables false
set_option linter.unusedSimpArgs false

def EntRep (T : Tab) (c : Cx) (k v : TypeId) (x : AV × AV) (y : MapEntry) : Prop :=
  (∃ d, T.ty k = some d ∧ RepV T c d x.1 y.key.cells.toList ∧ vAgg y.key = aggA x.1) ∧ (∃ d, T.ty v = some d ∧ RepV T c d x.2 y.val.cells.toList ∧ vAgg y.val = aggA x.2)
def ObjRep (T : Tab) (c : Cx) (id : Nat) (ob : AObj) (o : Option Obj) : Prop :=
  match ob with
  | .cells e vs => c.ε id = e ∧ (∃ d, T.ty e = some d) ∧ ∃ cs tail : List Value, o = some (.cells (cs ++ tail).toArray e (0, 0)) ∧ RepL T c (List.replicate vs.length e) vs cs
  | .map k v es => ∃ ents clock, o = some (.map ents clock) ∧ ents.size = es.length ∧ ∀ (i : Nat) x y, es[i]? = some x → ents[i]? = some y → EntRep T c k v x y
/-- A slice's address, length, capacity, and what lies behind its length in the block that is its own. -/
def TokRep (T : Tab) (base : Nat) (c : Cx) (w : World) (s : Option Addr × Nat × Nat × TypeId) : Prop :=
  s.2.2.1 = s.2.1 ∨ ∃ b cs, s.1 = some ⟨b, 0, none⟩ ∧ w.heap[b]? = some (.cells cs s.2.2.2 (0, 0)) ∧ cs.size = s.2.2.1 * T.size s.2.2.2 ∧ base ≤ b ∧ s.2.1 ≤ s.2.2.1 ∧ s.2.2.1 ≤ maxLen ∧
    (∀ o, s.2.1 * T.size s.2.2.2 ≤ o → c.F b o = none)
def tokBlk (s : Option Addr × Nat × Nat × TypeId) : Option Nat := if s.2.2.1 = s.2.1 then none else s.1.map (·.block)

/-- A block that is held: nothing else knows of it. -/
structure Held (c : Cx) (σ : St) (w : World) (b : Nat) (o : Obj) : Prop where
  heap : w.heap[b]? = some o
  F : ∀ o', c.F b o' = none
  obj : ∀ id ob, σ.obj id = some ob → c.μ id ≠ b
  tok : ∀ t, σ.live t = true → tokBlk (c.τ t) ≠ some b
structure Inv (T : Tab) (base : Nat) (c : Cx) (σ : St) (w : World) : Prop where
  next : c.next = σ.next
  ntok : c.ntok = σ.ntok
  le : base ≤ w.heap.size
  F : ∀ b o v, c.F b o = some v → w.cell? ⟨b, o, none⟩ = some v
  obj : ∀ id ob, σ.obj id = some ob → id < σ.next ∧ base ≤ c.μ id ∧ (∀ o, c.F (c.μ id) o = none) ∧ ObjRep T c id ob w.heap[c.μ id]?
  inj : ∀ i j oi oj, σ.obj i = some oi → σ.obj j = some oj → c.μ i = c.μ j → i = j
  tok : ∀ t, σ.live t = true → t < σ.ntok ∧ TokRep T base c w (c.τ t)
  tokObj : ∀ t id ob, σ.live t = true → σ.obj id = some ob → tokBlk (c.τ t) ≠ some (c.μ id)
  tokTok : ∀ t t', σ.live t = true → σ.live t' = true → t ≠ t' → ∀ b, tokBlk (c.τ t) = some b → tokBlk (c.τ t') ≠ some b
  G : ∀ b o, c.G b = some o → Held c σ w b o
section
variable {T : Tab} {base : Nat} {c c' : Cx} {σ : St} {w w' : World}
theorem EntRep.ext {k v : TypeId} {x : AV × AV} {y : MapEntry} (h : EntRep T c k v x y) (hx : Ext c c') : EntRep T c' k v x y :=
  let ⟨⟨d, h1, h2, h3⟩, d', g1, g2, g3⟩ := h; ⟨⟨d, h1, h2.ext hx, h3⟩, d', g1, g2.ext hx, g3⟩
theorem ObjRep.ext {id : Nat} {ob : AObj} {o : Option Obj} (h : ObjRep T c id ob o) (hx : Ext c c') (hi : id < c.next) : ObjRep T c' id ob o := by
  cases ob with
  | cells e vs => obtain ⟨h1, h2, cs, tail, h3, h4⟩ := h; exact ⟨(hx.ε id hi).trans h1, h2, cs, tail, h3, h4.ext hx⟩
  | map k v es => obtain ⟨ents, clock, h1, h2, h3⟩ := h; exact ⟨ents, clock, h1, h2, fun i x y hi hj => (h3 i x y hi hj).ext hx⟩
theorem lt_of_some {w : World} {b : Nat} {o : Obj} (h : w.heap[b]? = some o) : b < w.heap.size := (Array.getElem?_eq_some_iff.1 h).1
theorem ObjRep.lt {id : Nat} {ob : AObj} {b : Nat} (h : ObjRep T c id ob w.heap[b]?) : b < w.heap.size := by
  cases ob with
  | cells e vs => obtain ⟨_, _, cs, tail, h3, _⟩ := h; exact lt_of_some h3
  | map k v es => obtain ⟨ents, clock, h1, _⟩ := h; exact lt_of_some h1
theorem lt_of_cell {w : World} {b o : Nat} {v : Value} (h : w.cell? ⟨b, o, none⟩ = some v) : b < w.heap.size := by
  rcases Nat.lt_or_ge b w.heap.size with hl | hl
  · exact hl
  · simp [World.cell?, Array.getElem?_eq_none hl] at h
theorem cell_same {b o : Nat} (h : w'.heap[b]? = w.heap[b]?) : w'.cell? ⟨b, o, none⟩ = w.cell? ⟨b, o, none⟩ := by simp [World.cell?, h]
/-- It holds of the heap alone. -/
theorem Inv.heap (h : Inv T base c σ w) (hw : w'.heap = w.heap) : Inv T base c σ w' where
  next := h.next
  ntok := h.ntok
  le := by rw [hw]; exact h.le
  F := fun b o v hv => by rw [cell_same (congrArg (·[b]?) hw)]; exact h.F b o v hv
  obj := fun id ob ho => by rw [hw]; exact h.obj id ob ho
  inj := h.inj
  tok := fun t ht => by
    obtain ⟨h1, h2⟩ := h.tok t ht
    refine ⟨h1, ?_⟩
    unfold TokRep at h2 ⊢
    rw [hw]; exact h2
  tokObj := h.tokObj
  tokTok := h.tokTok
  G := fun b o hg => let q := h.G b o hg; ⟨by rw [hw]; exact q.heap, q.F, q.obj, q.tok⟩
/-- Objects and tokens can be forgotten. -/
theorem Inv.weak (h : Inv T base c σ w) {σ' : St} (hn : σ'.next = σ.next) (ht : σ'.ntok = σ.ntok) (ho : ∀ i ob, σ'.obj i = some ob → σ.obj i = some ob) (hl : ∀ t, σ'.live t = true → σ.live t = true) : Inv T base c σ' w where
  next := h.next.trans hn.symm
  ntok := h.ntok.trans ht.symm
  le := h.le
  F := h.F
  obj := fun id ob hob => by rw [hn]; exact h.obj id ob (ho id ob hob)
  inj := fun i j oi oj hi hj he => h.inj i j oi oj (ho i oi hi) (ho j oj hj) he
  tok := fun t hlt => by rw [ht]; exact h.tok t (hl t hlt)
  tokObj := fun t id ob hlt hob => h.tokObj t id ob (hl t hlt) (ho id ob hob)
  tokTok := fun t t' h1 h2 hne b hb => h.tokTok t t' (hl t h1) (hl t' h2) hne b hb
  G := fun b o hg => let q := h.G b o hg; ⟨q.heap, q.F, fun id ob hob => q.obj id ob (ho id ob hob), fun t h1 => q.tok t (hl t h1)⟩
theorem TokRep.keep {s : Option Addr × Nat × Nat × TypeId} (h : TokRep T base c w s) (hk : ∀ b, tokBlk s = some b → w'.heap[b]? = w.heap[b]?) (hF : ∀ b, tokBlk s = some b → ∀ o, c'.F b o = c.F b o) : TokRep T base c' w' s := by
  rcases h with h | ⟨b, cs, h1, h2, h3, h4, h5, h6, h7⟩
  · exact .inl h
  · by_cases he : s.2.2.1 = s.2.1
    · exact .inl he
    · have hb : tokBlk s = some b := by unfold tokBlk; rw [if_neg he, h1]; rfl
      exact .inr ⟨b, cs, h1, (hk b hb).trans h2, h3, h4, h5, h6, fun o ho => (hF b hb o).trans (h7 o ho)⟩
theorem TokRep.lt {s : Option Addr × Nat × Nat × TypeId} (h : TokRep T base c w s) {b : Nat} (hb : tokBlk s = some b) : b < w.heap.size ∧ base ≤ b := by
  unfold tokBlk at hb
  split at hb
  · cases hb
  · rename_i hne
    rcases h with h | ⟨b', cs, h1, h2, _, h4, _⟩
    · exact absurd h hne
    · rw [h1] at hb
      simp only [Option.map_some, Option.some.injEq] at hb
      subst hb
      exact ⟨lt_of_some h2, h4⟩
/-- The state of what is known when an object is made. -/
def Cx.newObj (c : Cx) (e : TypeId) (b : Nat) : Cx := { c with next := c.next + 1, ε := fun i => if i = c.next then e else c.ε i, μ := fun i => if i = c.next then b else c.μ i }
theorem Ext.newObj (c : Cx) (e : TypeId) (b : Nat) : Ext c (c.newObj e b) :=
  ⟨Nat.le_succ _, Nat.le_refl _, fun i hi => if_neg (by omega), fun i hi => if_neg (by omega), fun _ _ => rfl, fun _ _ _ h => h⟩
/-- An object in a new block. -/
theorem Inv.new (h : Inv T base c σ w) (ob : AObj) (e : TypeId) (o : Obj) (hr : ObjRep T (c.newObj e w.heap.size) c.next ob (some o)) : Inv T base (c.newObj e w.heap.size) (σ.new ob) (w.alloc o) := by
  have hx := Ext.newObj c e w.heap.size
  have hold : ∀ {b}, b < w.heap.size → (w.alloc o).heap[b]? = w.heap[b]? := fun hb => heap_alloc_old w o hb
  have hFlt : ∀ b o v, c.F b o = some v → b < w.heap.size := fun b o v hv => lt_of_cell (h.F b o v hv)
  have hμ : ∀ i, i < c.next → (c.newObj e w.heap.size).μ i = c.μ i := hx.μ
  refine ⟨by show c.next + 1 = σ.next + 1; rw [h.next], h.ntok, ?_, ?_, ?_, ?_, ?_, ?_, ?_, fun b o' hg => ?_⟩
  · have := h.le; show base ≤ (w.heap.push o).size; simp; omega
  · intro b o' v hv
    rw [cell_same (hold (hFlt b o' v hv))]
    exact h.F b o' v hv
  · intro id ob' hob
    simp only [St.new] at hob
    by_cases hi : id = σ.next
    · subst hi
      rw [if_pos rfl] at hob
      cases hob
      rw [← h.next]
      have hn : (c.newObj e w.heap.size).μ c.next = w.heap.size := if_pos rfl
      rw [hn]
      refine ⟨by show c.next < σ.next + 1; rw [h.next]; omega, h.le, fun o' => ?_, by rw [heap_alloc_new]; exact hr⟩
      cases hf : c.F w.heap.size o' with
      | none => exact hf
      | some v => exact absurd (hFlt _ _ _ hf) (Nat.lt_irrefl _)
    · rw [if_neg hi] at hob
      obtain ⟨h1, h2, h3, h4⟩ := h.obj id ob' hob
      rw [hμ id (by rw [h.next]; exact h1)]
      exact ⟨by show id < σ.next + 1; omega, h2, h3, by rw [hold h4.lt]; exact h4.ext hx (by rw [h.next]; exact h1)⟩
  · intro i j oi oj hi hj he
    simp only [St.new] at hi hj
    by_cases ci : i = σ.next <;> by_cases cj : j = σ.next
    · omega
    · rw [if_neg cj] at hj
      obtain ⟨h1, _, _, h4⟩ := h.obj j oj hj
      rw [hμ j (by rw [h.next]; exact h1), ci, ← h.next, show (c.newObj e w.heap.size).μ c.next = w.heap.size from if_pos rfl] at he
      have := h4.lt; omega
    · rw [if_neg ci] at hi
      obtain ⟨h1, _, _, h4⟩ := h.obj i oi hi
      rw [hμ i (by rw [h.next]; exact h1), cj, ← h.next, show (c.newObj e w.heap.size).μ c.next = w.heap.size from if_pos rfl] at he
      have := h4.lt; omega
    · rw [if_neg ci] at hi
      rw [if_neg cj] at hj
      rw [hμ i (by rw [h.next]; exact (h.obj i oi hi).1), hμ j (by rw [h.next]; exact (h.obj j oj hj).1)] at he
      exact h.inj i j oi oj hi hj he
  · intro t ht
    obtain ⟨h1, h2⟩ := h.tok t ht
    exact ⟨h1, h2.keep (c' := c.newObj e w.heap.size) (fun b hb => hold (h2.lt hb).1) (fun b hb o' => rfl)⟩
  · intro t id ob' ht hob
    simp only [St.new] at hob
    by_cases hi : id = σ.next
    · rw [hi, ← h.next, show (c.newObj e w.heap.size).μ c.next = w.heap.size from if_pos rfl]
      intro hb
      have := ((h.tok t ht).2.lt hb).1; omega
    · rw [if_neg hi] at hob
      rw [hμ id (by rw [h.next]; exact (h.obj id ob' hob).1)]
      exact h.tokObj t id ob' ht hob
  · exact h.tokTok
  · have q := h.G b o' hg
    refine ⟨by rw [hold (lt_of_some q.heap)]; exact q.heap, q.F, fun id ob' hob => ?_, q.tok⟩
    simp only [St.new] at hob
    by_cases hi : id = σ.next
    · rw [hi, ← h.next, show (c.newObj e w.heap.size).μ c.next = w.heap.size from if_pos rfl]
      have := lt_of_some q.heap; omega
    · rw [if_neg hi] at hob
      rw [hμ id (by rw [h.next]; exact (h.obj id ob' hob).1)]
      exact q.obj id ob' hob
/-- A store into an object. -/
theorem Inv.set (h : Inv T base c σ w) {id : Nat} {ob ob' : AObj} (hid : σ.obj id = some ob) {o : Obj} (hw : ∀ b, b ≠ c.μ id → w'.heap[b]? = w.heap[b]?) (hs : w'.heap.size = w.heap.size) (ho : w'.heap[c.μ id]? = some o) (hr : ObjRep T c id ob' (some o)) :
    Inv T base c (σ.set id ob') w' := by
  obtain ⟨i1, i2, i3, i4⟩ := h.obj id ob hid
  have hF : ∀ b o' v, c.F b o' = some v → b ≠ c.μ id := fun b o' v hv e => by subst e; rw [i3 o'] at hv; cases hv
  refine ⟨h.next, h.ntok, by rw [hs]; exact h.le, ?_, ?_, ?_, ?_, ?_, h.tokTok, fun b o' hg => let q := h.G b o' hg; ⟨(hw b (fun e => q.obj id ob hid e.symm)).trans q.heap, q.F, fun j oj hj => ?_, q.tok⟩⟩
  · intro b o' v hv
    rw [cell_same (hw b (hF b o' v hv))]
    exact h.F b o' v hv
  · intro j oj hj
    simp only [St.set] at hj
    by_cases c1 : j = id
    · subst c1
      rw [if_pos rfl] at hj
      cases hj
      exact ⟨i1, i2, i3, by rw [ho]; exact hr⟩
    · rw [if_neg c1] at hj
      obtain ⟨j1, j2, j3, j4⟩ := h.obj j oj hj
      exact ⟨j1, j2, j3, by rw [hw _ (fun e => c1 (h.inj j id oj ob hj hid e))]; exact j4⟩
  · intro i j oi oj hi hj he
    simp only [St.set] at hi hj
    by_cases ci : i = id <;> by_cases cj : j = id
    · omega
    · rw [if_neg cj] at hj; subst ci; exact h.inj i j ob oj hid hj he
    · rw [if_neg ci] at hi; subst cj; exact h.inj i j oi ob hi hid he
    · rw [if_neg ci] at hi; rw [if_neg cj] at hj; exact h.inj i j oi oj hi hj he
  · intro t ht
    obtain ⟨h1, h2⟩ := h.tok t ht
    exact ⟨h1, h2.keep (c' := c) (fun b hb => hw b (fun e => h.tokObj t id ob ht hid (by rw [hb, e]))) (fun b hb o' => rfl)⟩
  · intro t j oj ht hj
    simp only [St.set] at hj
    by_cases c1 : j = id
    · subst c1; exact h.tokObj t j ob ht hid
    · rw [if_neg c1] at hj; exact h.tokObj t j oj ht hj
  · simp only [St.set] at hj
    by_cases c1 : j = id
    · subst c1; exact q.obj j ob hid
    · rw [if_neg c1] at hj; exact q.obj j oj hj
/-- What is known when a row is laid that doesn't turn up to its length. -/
def Cx.newRow (c : Cx) (b n : Nat) (cs : List Value) (s : Option Addr × Nat × Nat × TypeId) : Cx :=
  { c with ntok := c.ntok + 1, τ := fun t => if t = c.ntok then s else c.τ t, F := fun g o => if g = b ∧ o < n then cs[o]? else c.F g o }
theorem Ext.newRow {b n : Nat} {cs : List Value} {s : Option Addr × Nat × Nat × TypeId} (hF : ∀ o v, o < n → c.F b o = some v → cs[o]? = some v) : Ext c (c.newRow b n cs s) :=
  ⟨Nat.le_refl _, Nat.le_succ _, fun _ _ => rfl, fun _ _ => rfl, fun t ht => if_neg (by omega), fun g o v hv => by
    show (if g = b ∧ o < n then cs[o]? else c.F g o) = some v
    by_cases hc : g = b ∧ o < n
    · rw [if_pos hc]; obtain ⟨rfl, ho⟩ := hc; exact hF o v ho hv
    · rw [if_neg hc]; exact hv⟩
theorem tokNew_live {σ : St} {tk : Option Nat} {t : Nat} (h : (σ.tokNew tk).live t = true) : t = σ.ntok ∨ (t ≠ σ.ntok ∧ tk ≠ some t ∧ σ.live t = true) := by
  simp only [St.tokNew] at h
  by_cases h1 : t = σ.ntok
  · exact .inl h1
  · rw [if_neg h1] at h
    by_cases h2 : tk = some t
    · rw [if_pos h2] at h; cases h
    · rw [if_neg h2] at h; exact .inr ⟨h1, h2, h⟩
/-- A row that is laid in block b: the rest of what is known stays. -/
theorem Inv.lay (h : Inv T base c σ w) {b n len cap : Nat} {cs : List Value} {e : TypeId} {cur : Array Value} (tk : Option Nat) (hb : w'.heap[b]? = some (.cells cur e (0, 0))) (hbase : base ≤ b) (hold : ∀ g, g < w.heap.size → g ≠ b → w'.heap[g]? = w.heap[g]?) (hsz : w.heap.size ≤ w'.heap.size)
    (hF : ∀ o v, o < n → c.F b o = some v → cs[o]? = some v) (hF2 : ∀ o, n ≤ o → c.F b o = none) (hcs : ∀ o, o < n → cur[o]? = cs[o]?) (hl : cs.length = n) (hn : n = len * T.size e) (hcur : cur.size = cap * T.size e) (hle : len ≤ cap) (hmax : cap ≤ maxLen)
    (hG : c.G b = none) (hobj : ∀ id ob, σ.obj id = some ob → c.μ id ≠ b) (htok : ∀ t, σ.live t = true → tk ≠ some t → tokBlk (c.τ t) ≠ some b) :
    Inv T base (c.newRow b n cs (some ⟨b, 0, none⟩, len, cap, e)) (σ.tokNew tk) w' := by
  have hx : Ext c (c.newRow b n cs (some ⟨b, 0, none⟩, len, cap, e)) := .newRow hF
  have hτ : (c.newRow b n cs (some ⟨b, 0, none⟩, len, cap, e)).τ σ.ntok = (some ⟨b, 0, none⟩, len, cap, e) := by rw [← h.ntok]; exact if_pos rfl
  have hblk : ∀ g, tokBlk ((c.newRow b n cs (some ⟨b, 0, none⟩, len, cap, e)).τ σ.ntok) = some g → g = b := by
    intro g hg
    rw [hτ] at hg
    unfold tokBlk at hg
    split at hg
    · cases hg
    · simpa using hg.symm
  have hFb : ∀ g o, g ≠ b → (c.newRow b n cs (some ⟨b, 0, none⟩, len, cap, e)).F g o = c.F g o := fun g o hg => if_neg (by rintro ⟨e, _⟩; exact hg e)
  have hτo : ∀ t, σ.live t = true → (c.newRow b n cs (some ⟨b, 0, none⟩, len, cap, e)).τ t = c.τ t := fun t ht => hx.τ t (by rw [h.ntok]; exact (h.tok t ht).1)
  refine ⟨h.next, by show c.ntok + 1 = σ.ntok + 1; rw [h.ntok], Nat.le_trans h.le hsz, ?_, ?_, h.inj, ?_, ?_, ?_, ?_⟩
  · intro g o v hv
    simp only [Cx.newRow] at hv
    by_cases hc : g = b ∧ o < n
    · rw [if_pos hc] at hv
      obtain ⟨rfl, ho⟩ := hc
      have := hcs o ho
      simp only [World.cell?, hb, Option.isSome_none, Bool.false_eq_true, if_false]
      rw [this]; exact hv
    · rw [if_neg hc] at hv
      have hgb : g ≠ b := by
        rintro rfl
        rw [hF2 o (by omega)] at hv; cases hv
      rw [cell_same (hold g (lt_of_cell (h.F g o v hv)) hgb)]
      exact h.F g o v hv
  · intro id ob hob
    obtain ⟨h1, h2, h3, h4⟩ := h.obj id ob hob
    have hne := hobj id ob hob
    exact ⟨h1, h2, fun o => (hFb _ _ hne).trans (h3 o), by rw [show (c.newRow b n cs (some ⟨b, 0, none⟩, len, cap, e)).μ id = c.μ id from rfl, hold _ h4.lt hne]; exact h4.ext hx (by rw [h.next]; exact h1)⟩
  · intro t ht
    rcases tokNew_live ht with rfl | ⟨h1, h2, h3⟩
    · refine ⟨by show σ.ntok < σ.ntok + 1; omega, ?_⟩
      rw [hτ]
      refine .inr ⟨b, cur, rfl, hb, hcur, hbase, hle, hmax, fun o ho => ?_⟩
      simp only at ho
      exact (if_neg (by rintro ⟨_, h9⟩; omega)).trans (hF2 o (by omega))
    · obtain ⟨g1, g2⟩ := h.tok t h3
      refine ⟨by show t < σ.ntok + 1; omega, ?_⟩
      rw [hτo t h3]
      exact g2.keep (fun g hg => hold g (g2.lt hg).1 (fun e => htok t h3 h2 (by rw [hg, e]))) (fun g hg o => hFb g o (fun e => htok t h3 h2 (by rw [hg, e])))
  · intro t id ob ht hob hbk
    rcases tokNew_live ht with rfl | ⟨h1, h2, h3⟩
    · exact hobj id ob hob (hblk _ hbk)
    · rw [hτo t h3] at hbk
      exact h.tokObj t id ob h3 hob hbk
  · intro t t' ht ht' hne g hg hg'
    rcases tokNew_live ht with rfl | ⟨h1, h2, h3⟩ <;> rcases tokNew_live ht' with rfl | ⟨h1', h2', h3'⟩
    · exact hne rfl
    · rw [hτo t' h3'] at hg'
      have := hblk g hg; subst this
      exact htok t' h3' h2' hg'
    · rw [hτo t h3] at hg
      have := hblk g hg'; subst this
      exact htok t h3 h2 hg
    · rw [hτo t h3] at hg
      rw [hτo t' h3'] at hg'
      exact h.tokTok t t' h3 h3' hne g hg hg'
  · intro g o hg
    have q := h.G g o hg
    have hgb : g ≠ b := fun e => by subst e; rw [show (c.newRow g n cs (some ⟨g, 0, none⟩, len, cap, e)).G g = c.G g from rfl, hG] at hg; cases hg
    refine ⟨(hold g (lt_of_some q.heap) hgb).trans q.heap, fun o' => (hFb g o' hgb).trans (q.F o'), q.obj, fun t ht hbk => ?_⟩
    rcases tokNew_live ht with rfl | ⟨h1, h2, h3⟩
    · exact hgb (hblk g hbk)
    · rw [hτo t h3] at hbk; exact q.tok t h3 hbk
theorem Inv.G_new (h : Inv T base c σ w) : c.G w.heap.size = none := by
  cases hg : c.G w.heap.size with
  | none => rfl
  | some o => exact absurd (lt_of_some (h.G _ o hg).heap) (Nat.lt_irrefl _)
/-- A row in a new block. -/
theorem Inv.newRow (h : Inv T base c σ w) {n len cap : Nat} {cs : List Value} {e : TypeId} {cur : Array Value} (tk : Option Nat) (hcs : ∀ o, o < n → cur[o]? = cs[o]?) (hl : cs.length = n) (hn : n = len * T.size e) (hcur : cur.size = cap * T.size e) (hle : len ≤ cap) (hmax : cap ≤ maxLen) :
    Inv T base (c.newRow w.heap.size n cs (some ⟨w.heap.size, 0, none⟩, len, cap, e)) (σ.tokNew tk) (w.alloc (.cells cur e (0, 0))) ∧ Ext c (c.newRow w.heap.size n cs (some ⟨w.heap.size, 0, none⟩, len, cap, e)) := by
  have hF : ∀ o, c.F w.heap.size o = none := fun o => by
    cases hf : c.F w.heap.size o with
    | none => rfl
    | some v => exact absurd (lt_of_cell (h.F _ _ _ hf)) (Nat.lt_irrefl _)
  refine ⟨h.lay tk (heap_alloc_new w _) h.le (fun g hg _ => heap_alloc_old w _ hg) (by show _ ≤ (w.heap.push _).size; simp) (fun o v _ hv => by rw [hF o] at hv; cases hv) (fun o _ => hF o) hcs hl hn hcur hle hmax h.G_new
    (fun id ob hob e => ?_) (fun t ht _ hb => ?_), .newRow (fun o v _ hv => by rw [hF o] at hv; cases hv)⟩
  · have := (h.obj id ob hob).2.2.2.lt; omega
  · have := ((h.tok t ht).2.lt hb).1; omega
/-- The token of a slice without room, or of one that stays as it was, is told anew. -/
def Cx.tokOnly (c : Cx) (s : Option Addr × Nat × Nat × TypeId) : Cx := { c with ntok := c.ntok + 1, τ := fun t => if t = c.ntok then s else c.τ t }
theorem Ext.tokOnly (s : Option Addr × Nat × Nat × TypeId) : Ext c (c.tokOnly s) :=
  ⟨Nat.le_refl _, Nat.le_succ _, fun _ _ => rfl, fun _ _ => rfl, fun t ht => if_neg (by omega), fun _ _ _ h => h⟩
theorem Inv.tokOnly (h : Inv T base c σ w) (tk : Option Nat) {s : Option Addr × Nat × Nat × TypeId} (hs : TokRep T base c w s) (hGs : ∀ b o, c.G b = some o → tokBlk s ≠ some b) (hobj : ∀ id ob, σ.obj id = some ob → tokBlk s ≠ some (c.μ id)) (htok : ∀ t, σ.live t = true → tk ≠ some t → ∀ b, tokBlk s = some b → tokBlk (c.τ t) ≠ some b) :
    Inv T base (c.tokOnly s) (σ.tokNew tk) w := by
  have hτ : (c.tokOnly s).τ σ.ntok = s := by rw [← h.ntok]; exact if_pos rfl
  have hτo : ∀ t, σ.live t = true → (c.tokOnly s).τ t = c.τ t := fun t ht => (Ext.tokOnly s).τ t (by rw [h.ntok]; exact (h.tok t ht).1)
  refine ⟨h.next, by show c.ntok + 1 = σ.ntok + 1; rw [h.ntok], h.le, h.F, fun id ob hob => ?_, h.inj, ?_, ?_, ?_, ?_⟩
  · obtain ⟨h1, h2, h3, h4⟩ := h.obj id ob hob
    exact ⟨h1, h2, h3, h4.ext (Ext.tokOnly s) (by rw [h.next]; exact h1)⟩
  · intro t ht
    rcases tokNew_live ht with rfl | ⟨h1, h2, h3⟩
    · exact ⟨by show σ.ntok < σ.ntok + 1; omega, by rw [hτ]; exact hs.keep (fun _ _ => rfl) (fun _ _ _ => rfl)⟩
    · obtain ⟨g1, g2⟩ := h.tok t h3
      exact ⟨by show t < σ.ntok + 1; omega, by rw [hτo t h3]; exact g2.keep (fun _ _ => rfl) (fun _ _ _ => rfl)⟩
  · intro t id ob ht hob hbk
    rcases tokNew_live ht with rfl | ⟨h1, h2, h3⟩
    · rw [hτ] at hbk; exact hobj id ob hob hbk
    · rw [hτo t h3] at hbk; exact h.tokObj t id ob h3 hob hbk
  · intro t t' ht ht' hne g hg hg'
    rcases tokNew_live ht with rfl | ⟨h1, h2, h3⟩ <;> rcases tokNew_live ht' with rfl | ⟨h1', h2', h3'⟩
    · exact hne rfl
    · rw [hτ] at hg; rw [hτo t' h3'] at hg'; exact htok t' h3' h2' g hg hg'
    · rw [hτ] at hg'; rw [hτo t h3] at hg; exact htok t h3 h2 g hg' hg
    · rw [hτo t h3] at hg; rw [hτo t' h3'] at hg'; exact h.tokTok t t' h3 h3' hne g hg hg'
  · intro g o hg
    have q := h.G g o hg
    refine ⟨q.heap, q.F, q.obj, fun t ht hbk => ?_⟩
    rcases tokNew_live ht with rfl | ⟨h1, h2, h3⟩
    · rw [hτ] at hbk; exact hGs g o hg hbk
    · rw [hτo t h3] at hbk; exact q.tok t h3 hbk
theorem RepV.row {e : TypeId} {xs : List AV} {cs : List Value} {b cap : Nat} {k : Option Nat} (hr : RepL T c.closed (List.replicate xs.length e) xs cs) (hF : ∀ j v, cs[j]? = some v → c.F b j = some v) (hcap : xs.length ≤ cap) (hk : TokOk c k (some ⟨b, 0, none⟩) xs.length cap e) :
    Rep1 T c (.list e false xs k) (.slice (some ⟨b, 0, none⟩) xs.length cap) := by
  by_cases hne : xs = []
  · subst hne
    exact ⟨_, .list0 c e false _ cap k (by simp) hk, rfl⟩
  · exact ⟨_, .list c e xs cs b 0 cap k hr (fun j v hj => by rw [Nat.zero_add]; exact hF j v hj) hne hcap hk, rfl⟩
end
end Go.Proofs.Yticlihmbikcohaa.Va
