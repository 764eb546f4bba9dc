/- a table of types out of rows, and the test that it is the program's -/
import Derived.Test.YticlihmbikcohaaVaI
namespace Go.Proofs.Yticlihmbikcohaa.Va
open Go
set_option linter.unusedVariables false
set_option linter.unusedSimpArgs false
structure TRow where
  d : Ty
  sz : Nat
  bytes : Nat
  zero : AV
  eq : Bool := false
def rowsTab (l : List (Nat × TRow)) : Tab := ⟨fun t => (l.lookup t).map (·.d), fun t => ((l.lookup t).map (·.sz)).getD 0, fun t => ((l.lookup t).map (·.bytes)).getD 0, fun t => ((l.lookup t).map (·.zero)).getD .undef, fun t => ((l.lookup t).map (·.eq)).getD false⟩
mutual
def zc (T : Tab) : TypeId → AV → Option (List Value)
  | t, .bool b => if T.ty t = some .bool then some [.bool b] else none
  | t, .int k n => if T.ty t = some (.int k) then some [.int k n] else none
  | t, .str s => if T.ty t = some .str then some [.string s] else none
  | t, .mt b => match b, T.ty t with | true, some (.slice _) => some [.slice none 0 0] | _, _ => none
  | t, .nilp => if T.ty t = some .ptr then some [.pointer none] else none
  | t, .nilf => if T.ty t = some .func then some [.nilFunc] else none
  | t, .nilm => match T.ty t with | some (.map ..) => some [.map none] | _ => none
  | t, .nili => if T.ty t = some .iface then some [.nilIface] else none
  | t, .agg s vs =>
    if s = t then match T.ty t with | some d => (match Tab.comps d with | some ts => zcL T ts vs | none => none) | none => none
    else none
  | _, _ => none
def zcL (T : Tab) : List TypeId → List AV → Option (List Value)
  | [], [] => some []
  | t :: ts, v :: vs => match zc T t v, zcL T ts vs with | some a, some b => some (a ++ b) | _, _ => none
  | _, _ => none
end
mutual
theorem zc_rep {T : Tab} {c : Cx} : ∀ {v : AV} {t : TypeId} {cs : List Value}, zc T t v = some cs → ∃ d, T.ty t = some d ∧ RepV T c d v cs
  | .bool b, t, cs, h => by
    simp only [zc] at h; split at h
    · rename_i hd; simp only [Option.some.injEq] at h; subst h; exact ⟨_, hd, .bool c b⟩
    · cases h
  | .int k n, t, cs, h => by
    simp only [zc] at h; split at h
    · rename_i hd; simp only [Option.some.injEq] at h; subst h; exact ⟨_, hd, .int c k n⟩
    · cases h
  | .str s, t, cs, h => by
    simp only [zc] at h; split at h
    · rename_i hd; simp only [Option.some.injEq] at h; subst h; exact ⟨_, hd, .str c s⟩
    · cases h
  | .mt b, t, cs, h => by
    simp only [zc] at h; split at h
    · rename_i e hd; simp only [Option.some.injEq] at h; subst h; exact ⟨_, hd, .mt c e true none (by simp)⟩
    · cases h
  | .nilp, t, cs, h => by
    simp only [zc] at h; split at h
    · rename_i hd; simp only [Option.some.injEq] at h; subst h; exact ⟨_, hd, .nilp c⟩
    · cases h
  | .nilf, t, cs, h => by
    simp only [zc] at h; split at h
    · rename_i hd; simp only [Option.some.injEq] at h; subst h; exact ⟨_, hd, .nilf c⟩
    · cases h
  | .nilm, t, cs, h => by
    simp only [zc] at h; split at h
    · rename_i k v hd; simp only [Option.some.injEq] at h; subst h; exact ⟨_, hd, .nilm c k v⟩
    · cases h
  | .nili, t, cs, h => by
    simp only [zc] at h; split at h
    · rename_i hd; simp only [Option.some.injEq] at h; subst h; exact ⟨_, hd, .nili c⟩
    · cases h
  | .agg s vs, t, cs, h => by
    simp only [zc] at h
    split at h
    · rename_i hs
      subst hs
      split at h
      · rename_i d hd
        split at h
        · rename_i ts hts
          exact ⟨d, hd, .agg c s d ts vs cs hd hts (zcL_rep h)⟩
        · cases h
      · cases h
    · cases h
  | .undef, t, cs, h => by simp [zc] at h
  | .tup _, t, cs, h => by simp [zc] at h
  | .list .., t, cs, h => by simp [zc] at h
  | .view .., t, cs, h => by simp [zc] at h
  | .ptr .., t, cs, h => by simp [zc] at h
  | .fptr .., t, cs, h => by simp [zc] at h
  | .func .., t, cs, h => by simp [zc] at h
  | .map .., t, cs, h => by simp [zc] at h
  | .iface .., t, cs, h => by simp [zc] at h
theorem zcL_rep {T : Tab} {c : Cx} : ∀ {vs : List AV} {ts : List TypeId} {cs : List Value}, zcL T ts vs = some cs → RepL T c ts vs cs
  | [], [], cs, h => by simp only [zcL, Option.some.injEq] at h; subst h; exact .nil c
  | v :: vs, t :: ts, cs, h => by
    simp only [zcL] at h
    split at h
    · rename_i a b h1 h2
      simp only [Option.some.injEq] at h; subst h
      obtain ⟨d, hd, hr⟩ := zc_rep (c := c) h1
      exact .cons c t d ts v vs a b hd hr (zcL_rep h2)
    · cases h
  | [], t :: ts, cs, h => by simp [zcL] at h
  | v :: vs, [], cs, h => by simp [zcL] at h
end
/-- the same cell (of those that a zero value has) -/
def same1 : Value → Value → Bool
  | .bool a, .bool b => a == b
  | .int k a, .int k' b => decide (k = k') && a == b
  | .string a, .string b => a.data.toList == b.data.toList
  | .slice none 0 0, .slice none 0 0 => true
  | .pointer none, .pointer none => true
  | .nilFunc, .nilFunc => true
  | .map none, .map none => true
  | .nilIface, .nilIface => true
  | _, _ => false
theorem same1_eq {a b : Value} (h : same1 a b = true) : a = b := by
  unfold same1 at h
  split at h <;> first | rfl | (cases h; done) | skip
  · simp at h; rw [h]
  · simp at h; rw [h.1, h.2]
  · rename_i a b
    obtain ⟨a⟩ := a
    obtain ⟨b⟩ := b
    have : a.toList = b.toList := by simpa using h
    rw [Array.toList_inj.1 this]
def sameL : List Value → List Value → Bool
  | [], [] => true
  | a :: l, b :: m => same1 a b && sameL l m
  | _, _ => false
theorem sameL_eq : ∀ {l m : List Value}, sameL l m = true → l = m
  | [], [], _ => rfl
  | a :: l, b :: m, h => by
    simp only [sameL, Bool.and_eq_true] at h
    rw [same1_eq h.1, sameL_eq h.2]
  | [], _ :: _, h => by simp [sameL] at h
  | _ :: _, [], h => by simp [sameL] at h
def fieldsB (T : Tab) (fs : List TypeId) : List Field → Nat → Bool
  | [], _ => true
  | f :: F, i => (fs[i]? == some f.type) && (f.offset == T.sum (fs.take i)) && fieldsB T fs F (i + 1)
theorem fieldsB_spec {T : Tab} {fs : List TypeId} : ∀ {F : List Field} {k : Nat}, fieldsB T fs F k = true → ∀ (i : Nat) f, F[i]? = some f → fs[k + i]? = some f.type ∧ f.offset = T.sum (fs.take (k + i))
  | [], k, _, i, f, hi => by simp at hi
  | g :: F, k, h, i, f, hi => by
    simp only [fieldsB, Bool.and_eq_true, beq_iff_eq] at h
    cases i with
    | zero => simp only [List.getElem?_cons_zero, Option.some.injEq] at hi; subst hi; exact h.1
    | succ i =>
      have := fieldsB_spec h.2 i f (by simpa using hi)
      rw [show k + 1 + i = k + (i + 1) by omega] at this
      exact this
def descB (T : Tab) : Ty → TypeDesc → Bool
  | .bool, .bool => true
  | .int k, .int k' => decide (k = k')
  | .str, .string => true
  | .ptr, .pointer _ => true
  | .slice e, .slice e' => e == e'
  | .array n e, .array n' e' => n == n' && e == e'
  | .struct fs, .struct F => F.size == fs.length && fieldsB T fs F.toList 0
  | .map k v, .map k' v' => k == k' && v == v'
  | .func, .func .. => true
  | .iface, .interface _ => true
  | _, _ => false
theorem descB_ok {T : Tab} {d : Ty} {D : TypeDesc} (h : descB T d D = true) : DescOk T d D := by
  unfold descB at h
  split at h <;> first | (cases h; done) | trivial | skip
  · simpa [DescOk] using h
  · simpa [DescOk] using h
  · simpa [DescOk] using h
  · rename_i fs F
    simp only [Bool.and_eq_true, beq_iff_eq] at h
    refine ⟨h.1, fun i f hi => ?_⟩
    have := fieldsB_spec h.2 i f (by rw [Array.getElem?_toList]; exact hi)
    simpa using this
  · simpa [DescOk] using h
def rowB (P : Program) (T : Tab) (t : Nat) (r : TRow) : Bool :=
  (r.sz == T.sz r.d) && (match P.underlying t with | some D => descB T r.d D | none => false) &&
  (match P.info? t with
   | some i => i.size == r.sz && i.bytes == r.bytes && decide (r.bytes ≤ 1000000) &&
     (match i.zero, zc T t r.zero with | some z, some cs => sameL cs z.cells.toList && (vAgg z == aggA r.zero) | _, _ => false)
   | none => false) &&
  (match r.d with
   | .struct fs => fs.all fun u => (T.ty u).isSome
   | .array _ e => (T.ty e).isSome
   | .slice e => (T.ty e).isSome
   | _ => true) &&
  (!r.eq || match P.underlying t with | some (.struct F) => (F.toList.all fun f => f.name != "_") && !P.stoodInHeld t && !P.eqGuardType P.depth t | _ => false)
def rowsB (P : Program) (l : List (Nat × TRow)) : Bool := l.all fun (t, r) => rowB P (rowsTab l) t r
theorem lookup_mem {α : Type} : ∀ {l : List (Nat × α)} {t : Nat} {r : α}, l.lookup t = some r → (t, r) ∈ l
  | [], t, r, h => by simp at h
  | (s, q) :: l, t, r, h => by
    simp only [List.lookup_cons] at h
    split at h
    · rename_i hs
      have hs : t = s := by simpa using hs
      simp only [Option.some.injEq] at h
      subst h hs
      simp
    · exact List.mem_cons_of_mem _ (lookup_mem h)
theorem isSome_get {T : Tab} {t : TypeId} (h : (T.ty t).isSome = true) : ∃ d, T.ty t = some d := Option.isSome_iff_exists.1 h
theorem tabOk_of {P : Program} {l : List (Nat × TRow)} (h : rowsB P l = true) : TabOk P (rowsTab l) := by
  have key : ∀ t d, (rowsTab l).ty t = some d → ∃ r, l.lookup t = some r ∧ r.d = d ∧ (rowsTab l).size t = r.sz ∧ (rowsTab l).bytes t = r.bytes ∧ (rowsTab l).zero t = r.zero ∧ rowB P (rowsTab l) t r = true := by
    intro t d hd
    simp only [rowsTab] at hd ⊢
    cases hl : l.lookup t with
    | none => rw [hl] at hd; cases hd
    | some r =>
      rw [hl] at hd
      simp only [Option.map_some, Option.some.injEq] at hd
      exact ⟨r, rfl, hd, rfl, rfl, rfl, List.all_eq_true.1 h _ (lookup_mem hl)⟩
  refine ⟨fun t d hd => ?_, fun t d hd => ?_, fun t d hd => ?_, fun t d ts hd hts u hu => ?_, fun t e hd => ?_, fun t n e hd => ?_, fun t hd => ?_, fun t he => ?_⟩
  · obtain ⟨r, _, rfl, h2, h3, h4, hb⟩ := key t d hd
    simp only [rowB, Bool.and_eq_true, beq_iff_eq] at hb
    rw [h2]; exact hb.1.1.1.1
  · obtain ⟨r, _, rfl, h2, h3, h4, hb⟩ := key t d hd
    simp only [rowB, Bool.and_eq_true] at hb
    have hu := hb.1.1.1.2
    split at hu
    · rename_i D hD
      exact ⟨D, hD, descB_ok hu⟩
    · cases hu
  · obtain ⟨r, _, rfl, h2, h3, h4, hb⟩ := key t d hd
    simp only [rowB, Bool.and_eq_true] at hb
    have hi := hb.1.1.2
    split at hi
    · rename_i i hi'
      simp only [Bool.and_eq_true, beq_iff_eq, decide_eq_true_eq] at hi
      obtain ⟨⟨⟨k1, k2⟩, k3⟩, k4⟩ := hi
      split at k4
      · rename_i z cs hz hc
        simp only [Bool.and_eq_true, beq_iff_eq] at k4
        refine ⟨i, z, hi', by rw [h2]; exact k1, by rw [h3]; exact k2, by rw [h3]; exact k3, hz, fun c => ?_, by rw [h4]; exact k4.2⟩
        obtain ⟨d', hd', hr⟩ := zc_rep (c := c) hc
        rw [hd] at hd'
        cases hd'
        rw [h4, ← sameL_eq k4.1]
        exact hr
      · cases k4
    · cases hi
  · obtain ⟨r, _, rfl, h2, h3, h4, hb⟩ := key t d hd
    simp only [rowB, Bool.and_eq_true] at hb
    have hs := hb.1.2
    cases hrd : r.d with
    | struct fs =>
      rw [hrd] at hs hts
      simp only [Tab.comps, Option.some.injEq] at hts
      subst hts
      exact isSome_get (List.all_eq_true.1 hs u hu)
    | array n e =>
      rw [hrd] at hs hts
      simp only [Tab.comps, Option.some.injEq] at hts
      subst hts
      rw [List.eq_of_mem_replicate hu]
      exact isSome_get hs
    | _ => rw [hrd] at hts; simp [Tab.comps] at hts
  · obtain ⟨r, _, hr, h2, h3, h4, hb⟩ := key t _ hd
    simp only [rowB, Bool.and_eq_true] at hb
    have hs := hb.1.2
    rw [hr] at hs
    exact isSome_get hs
  · obtain ⟨r, _, hr, h2, h3, h4, hb⟩ := key t _ hd
    simp only [rowB, Bool.and_eq_true] at hb
    have hs := hb.1.2
    rw [hr] at hs
    exact isSome_get hs
  · simp only [rowsTab] at hd ⊢
    cases hl : l.lookup t with
    | none => rfl
    | some r => rw [hl] at hd; cases hd
  · simp only [rowsTab] at he
    cases hl : l.lookup t with
    | none => rw [hl] at he; cases he
    | some r =>
      rw [hl] at he
      have hb : rowB P (rowsTab l) t r = true := List.all_eq_true.1 h _ (lookup_mem hl)
      simp only [rowB, Bool.and_eq_true] at hb
      have hq := hb.2
      have he : r.eq = true := he
      rw [he] at hq
      simp only [Bool.not_true, Bool.false_or] at hq
      split at hq
      · rename_i F hF
        simp only [Bool.and_eq_true, List.all_eq_true, bne_iff_ne, Bool.not_eq_true'] at hq
        exact ⟨F, hF, hq.1.1, hq.1.2, hq.2⟩
      · cases hq
end Go.Proofs.Yticlihmbikcohaa.Va
