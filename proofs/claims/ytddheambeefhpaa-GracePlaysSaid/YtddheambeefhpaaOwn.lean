/- words for memory: a block that is known whole; what may have changed between two worlds -/
import Derived.Test.YtddheambeefhpaaProg
import Derived.WalkKit
import Derived.KernelRfl
import Derived.Deep.Draws
import Derived.Laws.Rows
import Derived.Laws.OwnMore
import Derived.Lib.Hide
import Derived.Deep.QuietTactic
import Derived.BigQuiet
import Derived.StillTailTactics
import Derived.Maps.AppendAt
import Derived.Laws.Tables
import Derived.Deep.RegionLaw
import Derived.BigRegion
import Derived.OwnWalk
import Derived.Laws.MakeOwn
namespace Go.Proofs.Ytddheambeefhpaa.Own
open Go.RowKit
set_option linter.unusedVariables false
set_option linter.unusedSimpArgs false

theorem hide {p : Prop} (h : p) : Hid p := h
theorem unhide {p : Prop} (h : Hid p) : p := h
theorem bool_ret {a b : Bool} (h : a = b) : Ending.returned (.bool a) = .returned (.bool b) := by rw [h]
theorem int_ret {k : IntKind} {a b : Int} (h : a = b) : Ending.returned (.int k a) = .returned (.int k b) := by rw [h]

/-- Block g is just the cells cs of element type t, none of them frozen. -/
def Blk (w : World) (g : Nat) (t : TypeId) (cs : Array Value) : Prop := w.heap[g]? = some (.cells cs t (0, 0))

section
variable {w w' : World} {g : Nat} {t : TypeId} {cs : Array Value}
theorem Blk.lt (h : Blk w g t cs) : g < w.heap.size := by
  rcases Nat.lt_or_ge g w.heap.size with hlt | hge
  · exact hlt
  · unfold Blk at h; rw [Array.getElem?_eq_none hge] at h; cases h
theorem Blk.cell (h : Blk w g t cs) (i : Nat) : w.cell? ⟨g, i, none⟩ = cs[i]? := cell_of_row w g i cs t (0, 0) h
theorem Blk.frozen (h : Blk w g t cs) (i : Nat) : w.frozen? ⟨g, i, none⟩ = false := by
  unfold Blk at h
  simp [World.frozen?, h]
theorem Blk.new (w : World) (t : TypeId) (cs : Array Value) : Blk (w.alloc (.cells cs t)) w.heap.size t cs := heap_alloc_new w _
theorem Blk.drew (h : Blk w g t cs) : Blk w.drew g t cs := h
theorem Blk.drewN (h : Blk w g t cs) (n : Nat) : Blk (w.drewN n) g t cs := h
theorem Blk.alloc (h : Blk w g t cs) (o : Obj) : Blk (w.alloc o) g t cs := (Below.heap_alloc w o g h.lt).trans h
theorem Blk.set_ (h : Blk w g t cs) (i : Nat) (u : Value) : Blk (w.setCell ⟨g, i, none⟩ u) g t (cs.setIfInBounds i u) := by
  unfold Blk at h ⊢
  simp [World.setCell, Array.getElem?_modify, h]
theorem Blk.far (h : Blk w g t cs) {p : Addr} (hp : g ≠ p.block) (u : Value) : Blk (w.setCell p u) g t cs := (Below.heap_setCell w p u g hp).trans h
theorem Blk.below {B : Nat} (h : Blk w g t cs) (hb : Below B w w') (hg : g < B) : Blk w' g t cs := (hb.block g hg).trans h
theorem Blk.eq (h : Blk w g t cs) {t' : TypeId} {cs' : Array Value} (h' : Blk w g t' cs') : t = t' ∧ cs = cs' := by
  unfold Blk at h h'
  rw [h] at h'
  injection h' with h'
  injection h' with h1 h2
  exact ⟨h2, h1⟩
theorem Blk.ne_ {g' : Nat} {t' : TypeId} {cs' : Array Value} (h : Blk w g t cs) (h' : Blk w g' t' cs') (hne : t ≠ t') : g ≠ g' := by
  rintro rfl
  exact hne (h.eq h').1
end

/-- Only the blocks of S, and new ones, may have changed. -/
structure Fr (S : Nat → Prop) (w w' : World) : Prop where
  os : w'.os = w.os
  tape : w'.tape = w.tape
  output : w'.output = w.output
  size : w.heap.size ≤ w'.heap.size
  block : ∀ i, i < w.heap.size → ¬ S i → w'.heap[i]? = w.heap[i]?
section
variable {S : Nat → Prop} {a w w' : World}
theorem Fr.refl (S : Nat → Prop) (w : World) : Fr S w w := ⟨rfl, rfl, rfl, Nat.le_refl _, fun _ _ _ => rfl⟩
theorem Fr.mono {S' : Nat → Prop} (h : Fr S a w) (hs : ∀ i, i < a.heap.size → S i → S' i) : Fr S' a w := ⟨h.os, h.tape, h.output, h.size, fun i hi hn => h.block i hi fun hS => hn (hs i hi hS)⟩
theorem Fr.trans {S' : Nat → Prop} (h : Fr S a w) (h' : Fr S' w w') (hs : ∀ i, i < a.heap.size → S' i → S i) : Fr S a w' :=
  ⟨h'.os.trans h.os, h'.tape.trans h.tape, h'.output.trans h.output, Nat.le_trans h.size h'.size, fun i hi hn => (h'.block i (Nat.lt_of_lt_of_le hi h.size) fun hS => hn (hs i hi hS)).trans (h.block i hi hn)⟩
theorem Fr.drewN (h : Fr S a w) (n : Nat) : Fr S a (w.drewN n) := ⟨h.os, h.tape, h.output, h.size, h.block⟩
theorem Fr.drew (h : Fr S a w) : Fr S a w.drew := ⟨h.os, h.tape, h.output, h.size, h.block⟩
theorem Fr.alloc (h : Fr S a w) (o : Obj) : Fr S a (w.alloc o) :=
  ⟨h.os, h.tape, h.output, Nat.le_trans h.size (by simp), fun i hi hn => (Below.heap_alloc w o i (Nat.lt_of_lt_of_le hi h.size)).trans (h.block i hi hn)⟩
theorem Fr.setCell (h : Fr S a w) {p : Addr} (hp : p.block < a.heap.size → S p.block) (u : Value) : Fr S a (w.setCell p u) :=
  ⟨h.os, h.tape, h.output, by simpa [World.setCell] using h.size, fun i hi hn => (Below.heap_setCell w p u i (by rintro rfl; exact hn (hp hi))).trans (h.block i hi hn)⟩
theorem Fr.grown (h : Fr S a w) {row : Option Nat} (hg : w.grownBy w' row) (hr : ∀ g, row = some g → g < a.heap.size → S g) : Fr S a w' :=
  ⟨hg.os.trans h.os, hg.tape.trans h.tape, hg.output.trans h.output, Nat.le_trans h.size hg.size, fun i hi hn => (hg.block i (Nat.lt_of_lt_of_le hi h.size) (fun e => hn (hr i e.symm hi))).trans (h.block i hi hn)⟩
theorem Fr.below_ {B : Nat} (h : Fr S a w) (hS : ∀ i, S i → B ≤ i) (hB : B ≤ a.heap.size) : Below B a w :=
  ⟨h.os, h.tape, h.output, h.size, fun i hi => h.block i (by omega) fun hs => by have := hS i hs; omega⟩
theorem Fr.of_below {B : Nat} (h : Below B a w) : Fr (fun i => B ≤ i) a w := ⟨h.os, h.tape, h.output, h.size, fun i hi hn => h.block i (by omega)⟩
theorem Fr.step_below {B : Nat} (h : Fr S a w) (hb : Below B w w') (hB : a.heap.size ≤ B) : Fr S a w' :=
  ⟨hb.os.trans h.os, hb.tape.trans h.tape, hb.output.trans h.output, Nat.le_trans h.size hb.size, fun i hi hn => (hb.block i (by omega)).trans (h.block i hi hn)⟩
theorem Blk.fr {g : Nat} {t : TypeId} {cs : Array Value} (h : Blk a g t cs) (hf : Fr S a w) (hn : ¬ S g) : Blk w g t cs := (hf.block g h.lt hn).trans h
theorem Fr.cell {p : Addr} (hf : Fr S a w) (hp : p.block < a.heap.size) (hn : ¬ S p.block) : w.cell? p = a.cell? p := World.cell?_of_block (hf.block p.block hp hn)
end
section
variable {P : Program} (w : World)
theorem run_loadVar_list (a : Addr) (ty : TypeId) (l : List Value) (d : TypeDesc) (hc : ∀ j v, l[j]? = some v → w.cell? (a.add j) = some v)
    (hu : P.underlying ty = some d) (hd : (match d with | .struct _ | .array _ _ => true | _ => false) = true) (hi : (P.info? ty).map (·.size) = some l.length) :
    (loadVar ty a).run P w = .ok (.agg l.toArray) w := by
  have hl : (loadCells a l.length).run P w = .ok l.toArray w := run_loadCells_list (P := P) w a l hc
  cases hq : P.info? ty with
  | none => simp [hq] at hi
  | some i =>
    have hs : i.size = l.length := by simpa [hq] using hi
    have hagg : (isAgg ty).run P w = .ok true w := by
      unfold isAgg
      rw [Sem.run_bind, run_underlying hu w]
      cases d <;> simp_all
    simp [loadVar, Sem.run_bind, hagg, sizeOf, typeInfo, hq, hs, hl]
theorem run_index_agg {T E : TypeId} {n : Nat} {d : TypeDesc} {cs : Array Value} {k : IntKind} {i : Int} {v : Value} (hT : P.underlying T = some (.array n E)) (hE : P.underlying E = some d)
    (hd : (match d with | .struct _ | .array _ _ => true | _ => false) = false) (hi : (P.info? E).map (·.size) = some 1) (h0 : 0 ≤ i) (h1 : i < n) (hv : cs[i.toNat]? = some v) :
    (Instr.index T (.agg cs) (.int k i)).run P w = .ok v w := by
  cases hq : P.info? E with
  | none => simp [hq] at hi
  | some j =>
    have hs : j.size = 1 := by simpa [hq] using hi
    have hagg : (isAgg E).run P w = .ok false w := by
      unfold isAgg
      rw [Sem.run_bind, run_underlying hE w]
      cases d <;> simp_all
    have hva : cs[i.toNat * 1]? = some v := by rw [Nat.mul_one]; exact hv
    simp [Instr.index, asIntOf, run_underlying hT, h0, h1, sizeOf, typeInfo, hq, hs, part, Sem.run_bind, hagg, hv]
end

/-- Only blocks from B on whose type is in T, and new ones, may have changed. -/
structure TFr (B : Nat) (T : List TypeId) (a w : World) : Prop where
  os : w.os = a.os
  tape : w.tape = a.tape
  output : w.output = a.output
  size : a.heap.size ≤ w.heap.size
  block : ∀ i, i < a.heap.size → (i < B ∨ ∀ cs t fz, a.heap[i]? = some (.cells cs t fz) → t ∉ T) → w.heap[i]? = a.heap[i]?
section
variable {B : Nat} {T : List TypeId} {a w w' : World}
theorem TFr.refl (B : Nat) (T : List TypeId) (w : World) : TFr B T w w := ⟨rfl, rfl, rfl, Nat.le_refl _, fun _ _ _ => rfl⟩
theorem TFr.trans {T' : List TypeId} (h : TFr B T a w) (h' : TFr B T' w w') (hs : ∀ t ∈ T', t ∈ T) : TFr B T a w' :=
  ⟨h'.os.trans h.os, h'.tape.trans h.tape, h'.output.trans h.output, Nat.le_trans h.size h'.size, fun i hi hn => by
    have e := h.block i hi hn
    refine (h'.block i (Nat.lt_of_lt_of_le hi h.size) ?_).trans e
    rcases hn with hn | hn
    · exact .inl hn
    · exact .inr fun cs t fz hc hm => hn cs t fz (e.symm.trans hc) (hs t hm)⟩
theorem TFr.mono {T' : List TypeId} (h : TFr B T' a w) (hs : ∀ t ∈ T', t ∈ T) : TFr B T a w := (TFr.refl B T a).trans h hs
theorem TFr.drewN (h : TFr B T a w) (n : Nat) : TFr B T a (w.drewN n) := ⟨h.os, h.tape, h.output, h.size, h.block⟩
theorem TFr.drew (h : TFr B T a w) : TFr B T a w.drew := ⟨h.os, h.tape, h.output, h.size, h.block⟩
theorem TFr.alloc (h : TFr B T a w) (o : Obj) : TFr B T a (w.alloc o) :=
  ⟨h.os, h.tape, h.output, Nat.le_trans h.size (by simp), fun i hi hn => (Below.heap_alloc w o i (Nat.lt_of_lt_of_le hi h.size)).trans (h.block i hi hn)⟩
theorem TFr.setCell (h : TFr B T a w) {p : Addr} {cs : Array Value} {t : TypeId} (hp : Blk w p.block t cs) (ht : t ∈ T) (hB : B ≤ p.block) (u : Value) : TFr B T a (w.setCell p u) :=
  ⟨h.os, h.tape, h.output, by simpa [World.setCell] using h.size, fun i hi hn => (Below.heap_setCell w p u i (by
    rintro rfl
    rcases hn with hn | hn
    · omega
    · exact hn cs t (0, 0) ((h.block _ hi (.inr hn)).symm.trans hp) ht)).trans (h.block i hi hn)⟩
theorem TFr.setNew (h : TFr B T a w) {p : Addr} (hp : a.heap.size ≤ p.block) (u : Value) : TFr B T a (w.setCell p u) :=
  ⟨h.os, h.tape, h.output, by simpa [World.setCell] using h.size, fun i hi hn => (Below.heap_setCell w p u i (by rintro rfl; omega)).trans (h.block i hi hn)⟩
theorem heap_setRow_far (w : World) (g : Nat) (cs : Array Value) (i : Nat) (hi : i ≠ g) : (w.setRow g cs).heap[i]? = w.heap[i]? := by
  simp [World.setRow, Array.getElem?_modify, Ne.symm hi]
theorem Blk.setRow {g : Nat} {t : TypeId} {cs : Array Value} (h : Blk w g t cs) (cs' : Array Value) : Blk (w.setRow g cs') g t cs' := by
  unfold Blk at h ⊢
  simp [World.setRow, Array.getElem?_modify, h]
theorem Blk.setRow_far {g g' : Nat} {t : TypeId} {cs : Array Value} (h : Blk w g t cs) (hn : g ≠ g') (cs' : Array Value) : Blk (w.setRow g' cs') g t cs := (heap_setRow_far w g' cs' g hn).trans h
theorem TFr.setRow (h : TFr B T a w) {g : Nat} {cs : Array Value} {t : TypeId} (hp : Blk w g t cs) (ht : t ∈ T) (hB : B ≤ g) (cs' : Array Value) : TFr B T a (w.setRow g cs') :=
  ⟨h.os, h.tape, h.output, by simpa [World.setRow] using h.size, fun i hi hn => (heap_setRow_far w g cs' i (by
    rintro rfl
    rcases hn with hn | hn
    · omega
    · exact hn cs t (0, 0) ((h.block _ hi (.inr hn)).symm.trans hp) ht)).trans (h.block i hi hn)⟩
theorem TFr.below (h : TFr B T a w) (hB : B ≤ a.heap.size) : Below B a w := ⟨h.os, h.tape, h.output, h.size, fun i hi => h.block i (by omega) (.inl hi)⟩
theorem TFr.of_below (h : Below a.heap.size a w) : TFr B T a w := ⟨h.os, h.tape, h.output, h.size, fun i hi _ => h.block i hi⟩
theorem TFr.step_below (h : TFr B T a w) (hb : Below w.heap.size w w') : TFr B T a w' :=
  ⟨hb.os.trans h.os, hb.tape.trans h.tape, hb.output.trans h.output, Nat.le_trans h.size hb.size, fun i hi hn => (hb.block i (Nat.lt_of_lt_of_le hi h.size)).trans (h.block i hi hn)⟩
theorem TFr.grown (h : TFr B T a w) {e : TypeId} {size n : Nat} {v : Value} {xs : List Value} (hown : w.ownsRow B e size v n xs) (hg : w.grownBy w' v.ownBlock) (he : e ∈ T) : TFr B T a w' := by
  refine ⟨hg.os.trans h.os, hg.tape.trans h.tape, hg.output.trans h.output, Nat.le_trans h.size hg.size, fun i hi hn => ?_⟩
  have e1 := h.block i hi hn
  refine (hg.block i (Nat.lt_of_lt_of_le hi h.size) fun hv => ?_).trans e1
  rcases hown.2 with ⟨rfl, _⟩ | ⟨g, cap, cur, rfl, hB, hh, _⟩
  · simp [Value.ownBlock] at hv
  · have : i = g := by simpa [Value.ownBlock] using hv
    subst this
    rcases hn with hn | hn
    · omega
    · exact hn cur e (0, 0) (e1.symm.trans hh) he
theorem Blk.tfr {g : Nat} {t : TypeId} {cs : Array Value} (h : Blk a g t cs) (hf : TFr B T a w) (ht : t ∉ T) : Blk w g t cs :=
  (hf.block g h.lt (.inr fun cs' t' fz hc => by unfold Blk at h; rw [h] at hc; cases hc; exact ht)).trans h
theorem Blk.tfr_low {g : Nat} {t : TypeId} {cs : Array Value} (h : Blk a g t cs) (hf : TFr B T a w) (hg : g < B) : Blk w g t cs := (hf.block g h.lt (.inl hg)).trans h
theorem own_tfr {base : Nat} {e : TypeId} {size n : Nat} {v : Value} {xs : List Value} (h : a.ownsRow base e size v n xs) (hf : TFr B T a w) (ht : e ∉ T) : w.ownsRow base e size v n xs := by
  rcases h with ⟨hl, h0 | ⟨g, cap, cur, hv, hB, hh, hrest⟩⟩
  · exact ⟨hl, .inl h0⟩
  · exact ⟨hl, .inr ⟨g, cap, cur, hv, hB, Blk.tfr (g := g) (t := e) (cs := cur) hh hf ht, hrest⟩⟩
theorem own_blk {base : Nat} {e t : TypeId} {size n g : Nat} {v : Value} {xs : List Value} {cs : Array Value} (h : w.ownsRow base e size v n xs) (hg : Blk w g t cs) (hne : e ≠ t) : v.ownBlock ≠ some g := by
  rcases h.2 with ⟨rfl, _⟩ | ⟨g', cap, cur, rfl, _, hh, _⟩
  · simp [Value.ownBlock]
  · intro he
    have : g' = g := by simpa [Value.ownBlock] using he
    subst this
    exact Blk.ne_ (t := e) hh hg hne rfl
theorem own_grown {base base' : Nat} {e e' : TypeId} {size size' n n' : Nat} {v v' : Value} {xs xs' : List Value} (h : w.ownsRow base e size v n xs) (h' : w.ownsRow base' e' size' v' n' xs') (hg : w.grownBy w' v'.ownBlock) (hne : e ≠ e') : w'.ownsRow base e size v n xs := by
  refine h.kept hg ?_
  rcases h'.2 with ⟨rfl, _⟩ | ⟨g', cap, cur, rfl, _, hh, _⟩
  · rcases h.2 with ⟨rfl, _⟩ | ⟨g, cap, cur, rfl, _⟩
    · exact .inl rfl
    · exact .inr (by simp [Value.ownBlock])
  · exact .inr (own_blk h (g := g') (t := e') hh hne)
theorem blk_grown {base : Nat} {e t : TypeId} {size n g : Nat} {v : Value} {xs : List Value} {cs : Array Value} (h : w.ownsRow base e size v n xs) (hb : Blk w g t cs) (hg : w.grownBy w' v.ownBlock) (hne : e ≠ t) : Blk w' g t cs :=
  (hg.block g hb.lt (fun he => own_blk h hb hne he.symm)).trans hb
theorem own_set {base : Nat} {e t : TypeId} {size n : Nat} {v : Value} {xs : List Value} {cs : Array Value} (h : w.ownsRow base e size v n xs) {p : Addr} (hb : Blk w p.block t cs) (hne : e ≠ t) (u : Value) : (w.setCell p u).ownsRow base e size v n xs :=
  ownsRow_setCell_other h (own_blk h hb hne) u
theorem own_drewN {base : Nat} {e : TypeId} {size n : Nat} {v : Value} {xs : List Value} (h : w.ownsRow base e size v n xs) (k : Nat) : (w.drewN k).ownsRow base e size v n xs := h
end

theorem wpList_append_run {P : Program} {w w' : World} {ops : Array Oper} {rest : List Oper} {o : Oper} {a : Act} {Q : Exit → Act → World → Prop} {v' : Value} (hgd : o.guard = none) (s x : Operand) (t u : TypeId)
    (ho : o.op = .call { callee := .builtin .append, args := #[s, x], argTypes := #[t, u] }) (hrun : (Builtin.append_ #[t, u] o.type #[a.eval s, a.eval x]).run P w = .ok v' w')
    (h : wpList P ops Q rest (a.put o.dst v') w') : wpList P ops Q (o :: rest) a w := by
  refine wpList_plain hgd fun _ hK => ?_
  unfold Oper.wp execOp
  simp only [ho, resolve, invoke, builtin, Sem.run_bind, Sem.run_pure, Result.andThen_ok, List.map_toArray, List.map_cons, List.map_nil, hrun]
  exact hK _ _ h

theorem add_zero_off (g j : Nat) : (⟨g, 0, none⟩ : Addr).add j = ⟨g, j, none⟩ := by unfold Addr.add; split <;> simp_all
theorem new_cell {w : World} {cs : Array Value} {t : TypeId} (j : Nat) (u : Value) (h : cs.toList[j]? = some u) : (w.alloc (.cells cs t)).cell? ((⟨w.heap.size, 0, none⟩ : Addr).add j) = some u := by
  rw [add_zero_off, (Blk.new w t cs).cell]; simpa using h
theorem alloc_size {w : World} {B : Nat} (o : Obj) (h : B ≤ w.heap.size) : B ≤ (w.alloc o).heap.size := Nat.le_trans h (by simp)
/-- append onto a row of the call's own, inside a region that draws its order -/
theorem step_append_own {P : Program} {w : World} {ops : Array Oper} {o : Oper} {a : Act} {K : Act → World → Prop} {Q : Exit → Act → World → Prop} {E : Prop} (hgd : o.guard = none) (s x : Operand) (t : TypeId)
    (ho : o.op = .call { callee := .builtin .append, args := #[s, x], argTypes := #[t, t] })
    (base : Nat) (e : TypeId) (i : TypeInfo) (z : Value) (size bytes : Nat) (ht : P.underlying t = some (.slice e)) (hi : P.info? e = some i) (hz : i.zero = some z)
    (hsize : i.size = size) (hby : i.bytes = bytes) (hzs : z.cells.size = size) (hsz : 0 < size)
    (v : Value) (n : Nat) (xs : List Value) (hs : a.eval s = v) (hown : w.ownsRow base e size v n xs)
    (ad : Addr) (m c : Nat) (news : List Value) (hx : a.eval x = .slice (some ad) m c) (hl : news.length = m * size) (hnews : ∀ j u, news[j]? = some u → w.cell? (ad.add j) = some u) (h1 : ∀ u ∈ news, u.oneCell' = true)
    (h63 : n + m ≤ maxLen) (hbytes : (n + m) * bytes ≤ 140737488355328) (hbase : base ≤ w.heap.size)
    (h : ∀ v' w', w'.ownsRow base e size v' (n + m) (xs ++ news) → w.grownBy w' v.ownBlock → K (a.put o.dst v') w') :
    if Region.wanted o (yielded ops a.tmps) = true then Oper.wp P o a w K Q else E := by
  have hw : Region.wanted o (yielded ops a.tmps) = true := by simp [Region.wanted, hgd]
  rw [if_pos hw]
  obtain ⟨v', w', hrun, h2, h3, h4, h5⟩ := run_append_own_at (P := P) w base t o.type e i z size bytes ht hi hz hsize hby hzs hsz v n xs hown ad m c news hl hnews h1 h63 hbytes hbase
  unfold Oper.wp execOp
  simp only [ho, resolve, invoke, builtin, Sem.run_bind, Sem.run_pure, Result.andThen_ok, List.map_toArray, List.map_cons, List.map_nil, hs, hx, hrun]
  exact h v' w' h2 h3

theorem own_below {w w' : World} {base : Nat} {e : TypeId} {size n : Nat} {v : Value} {xs : List Value} (h : w.ownsRow base e size v n xs) (hb : Below w.heap.size w w') : w'.ownsRow base e size v n xs := by
  refine h.kept (row := none) ⟨hb.os, hb.tape, hb.output, hb.size, fun k hk _ => hb.block k hk⟩ ?_
  rcases h.2 with ⟨rfl, _⟩ | ⟨g, cap, cur, rfl, _⟩
  · exact .inl rfl
  · exact .inr (by simp [Value.ownBlock])
/-- An array with some cells from p on put in. -/
def splice (cur : Array Value) (p : Nat) (news : List Value) : Array Value := (cur.toList.take p ++ news ++ cur.toList.drop (p + news.length)).toArray
theorem run_append_room_sz {P : Program} (w : World) (t ty e : TypeId) (i : TypeInfo) (size : Nat) (ht : P.underlying t = some (.slice e)) (hi : P.info? e = some i) (hsize : i.size = size)
    (g sLen sCap : Nat) (cur : Array Value) (hg : Blk w g e cur) (a : Addr) (m c : Nat) (news : List Value) (hl : news.length = m * size) (hnews : ∀ j u, news[j]? = some u → w.cell? (a.add j) = some u) (h1 : ∀ u ∈ news, u.oneCell' = true)
    (hroom : sLen + m ≤ sCap) (hfit : sLen * size + news.length ≤ cur.size) :
    (Builtin.append_ #[t, t] ty #[.slice (some ⟨g, 0, none⟩) sLen sCap, .slice (some a) m c]).run P w =
      .ok (.slice (some ⟨g, 0, none⟩) (sLen + m) sCap) (w.setRow g (splice cur (sLen * size) news)) := by
  subst hsize
  exact run_append_room w t ty e i ht hi g sLen sCap cur hg a m c news hl hnews h1 hroom hfit
theorem splice_size (cur : Array Value) (p : Nat) (news : List Value) (h : p + news.length ≤ cur.size) : (splice cur p news).size = cur.size := by
  unfold splice
  simp only [List.size_toArray, List.length_append, List.length_take, List.length_drop, Array.length_toList]; omega
theorem splice_take (cur : Array Value) (p : Nat) (news : List Value) (h : p + news.length ≤ cur.size) : (splice cur p news).toList.take (p + news.length) = cur.toList.take p ++ news := by
  have h1 : (cur.toList.take p ++ news).length = p + news.length := by simp only [List.length_append, List.length_take, Array.length_toList]; omega
  show List.take _ (cur.toList.take p ++ news ++ cur.toList.drop (p + news.length)) = _
  exact List.take_left' h1
theorem splice_rest (cur : Array Value) (p : Nat) (news : List Value) (h : p + news.length ≤ cur.size) (i : Nat) (hi : p + news.length ≤ i) : (splice cur p news)[i]? = cur[i]? := by
  unfold splice
  have h1 : (cur.toList.take p ++ news).length = p + news.length := by simp only [List.length_append, List.length_take, Array.length_toList]; omega
  rw [List.getElem?_toArray, List.getElem?_append_right (by omega), h1, List.getElem?_drop, show p + news.length + (i - (p + news.length)) = i by omega]
  simp
theorem TFr.grown_new {B : Nat} {T : List TypeId} {a w w' : World} (h : TFr B T a w) {base : Nat} {e : TypeId} {size n : Nat} {v : Value} {xs : List Value} (hown : w.ownsRow base e size v n xs) (hg : w.grownBy w' v.ownBlock) (hbase : a.heap.size ≤ base) : TFr B T a w' := by
  refine ⟨hg.os.trans h.os, hg.tape.trans h.tape, hg.output.trans h.output, Nat.le_trans h.size hg.size, fun i hi hn => ?_⟩
  refine (hg.block i (Nat.lt_of_lt_of_le hi h.size) fun hv => ?_).trans (h.block i hi hn)
  have := (hown.lt i hv.symm).1
  omega
theorem own_setRow {w : World} {base : Nat} {e t : TypeId} {size n g : Nat} {v : Value} {xs : List Value} {cs cs' : Array Value} (h : w.ownsRow base e size v n xs) (hb : Blk w g t cs) (hne : e ≠ t) : (w.setRow g cs').ownsRow base e size v n xs := by
  refine h.kept (row := some g) ⟨rfl, rfl, rfl, by simp [World.setRow], fun k hk hn => heap_setRow_far w g cs' k (fun e => hn (by rw [e]))⟩ ?_
  exact .inr (own_blk h hb hne)
theorem own_of_blk {w : World} {base : Nat} {e : TypeId} {size n g cap : Nat} {xs : List Value} {cur : Array Value} (hb : Blk w g e cur) (hB : base ≤ g) (hn : n ≤ cap) (hm : cap ≤ maxLen) (hs : cur.size = cap * size) (ht : cur.toList.take (n * size) = xs) (hl : xs.length = n * size) :
    w.ownsRow base e size (.slice (some ⟨g, 0, none⟩) n cap) n xs := ⟨hl, .inr ⟨g, cap, cur, rfl, hB, hb, hn, hm, hs, ht⟩⟩
theorem own_shape {w : World} {base : Nat} {e : TypeId} {n : Nat} {v : Value} {xs : List Value} (h : w.ownsRow base e 1 v n xs) (hn : 0 < n) : ∃ g cap, v = .slice (some ⟨g, 0, none⟩) n cap ∧ g < w.heap.size ∧ ∀ j, j < n → w.cell? ⟨g, j, none⟩ = xs[j]? := by
  rcases h.2 with ⟨_, h0⟩ | ⟨g, cap, cur, rfl, hB, hh, _⟩
  · omega
  · exact ⟨g, cap, rfl, Blk.lt (t := e) (cs := cur) hh, fun j hj => h.cellAt j (by omega)⟩
theorem own_slice {w : World} {base : Nat} {e : TypeId} {size n : Nat} {v : Value} {xs : List Value} (h : w.ownsRow base e size v n xs) : ∃ A c, v = .slice A n c := by
  rcases h.2 with ⟨rfl, rfl⟩ | ⟨g, cap, cur, rfl, _⟩
  · exact ⟨_, _, rfl⟩
  · exact ⟨_, _, rfl⟩
/-- make, of elements of one cell -/
theorem run_make_rep {P : Program} (t e : TypeId) (i : TypeInfo) (z : Value) (ht : P.underlying t = some (.slice e)) (hi : P.info? e = some i) (hz : i.zero = some z) (hsize : i.size = 1) (hc : z.cells = #[z])
    (n : Nat) (hbytes : i.bytes * n ≤ 281474976710656) (h63 : n ≤ 9223372036854775807) (w : World) :
    (Instr.makeSlice t (.int .i64 (n : Int)) (.int .i64 (n : Int))).run P w = .ok (.slice (some ⟨w.heap.size, 0, none⟩) n n) (w.alloc (.cells (Array.replicate n z) e)) := by
  have hb : (i.bytes : Int) * (n : Int) ≤ 281474976710656 := by
    have h : ((i.bytes * n : Nat) : Int) ≤ 281474976710656 := by omega
    rwa [Int.natCast_mul] at h
  have hr := run_make (P := P) w t e i z ht hi hz .i64 .i64 n n (by omega) (by omega) hb (by omega)
  have hm : madeCells z.cells ((n : Int).toNat * i.size) = Array.replicate n z := by
    rw [hc, hsize, Int.toNat_natCast, Nat.mul_one]
    unfold madeCells
    apply Array.ext
    · simp
    · intro j h1 h2
      simp only [Array.getElem_map, Array.getElem_range, Array.getElem_replicate]
      have : j % (#[z] : Array Value).size = 0 := Nat.mod_one j
      rw [this]; rfl
  rw [hm] at hr
  simpa using hr
theorem TFr.low_cell {B : Nat} {T : List TypeId} {a w : World} (h : TFr B T a w) (p : Addr) (hp : p.block < B) (hB : B ≤ a.heap.size) : w.cell? p = a.cell? p := World.cell?_of_block (h.block p.block (by omega) (.inl hp))
theorem own_tfr_own {B : Nat} {T : List TypeId} {a w : World} {base : Nat} {e : TypeId} {size n : Nat} {v : Value} {xs : List Value} (h : a.ownsRow base e size v n xs) (hf : TFr B T a w) (ht : e ∉ T) : w.ownsRow base e size v n xs := own_tfr h hf ht
end Go.Proofs.Ytddheambeefhpaa.Own
