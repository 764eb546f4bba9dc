/- rules by which a walk decides, reads rows, and goes round loops -/
import Derived.Test.YticlihmbikcohaaVaG
import Derived.KernelRfl
namespace Go.Proofs.Yticlihmbikcohaa.Va
open Go
set_option linter.unusedVariables false
set_option linter.unusedSimpArgs false
section
variable {R : Type} {r : Option R}
theorem br_split {t : Bool} {x y : Option R} (h1 : t = true → x = r) (h2 : t = false → y = r) : @br R t ⟨x⟩ ⟨y⟩ = r := by
  cases t
  · exact h2 rfl
  · exact h1 rfl
theorem want_split {t w : Bool} {x y : Option R} (h1 : t = w → x = r) (h2 : t = (!w) → y = r) : @sel R (wantB (.bool t) w) ⟨x⟩ ⟨y⟩ = r := by
  cases t <;> cases w
  · exact h1 rfl
  · exact h2 rfl
  · exact h2 rfl
  · exact h1 rfl
theorem br_dec {p : Prop} [Decidable p] {x y : Option R} (h1 : p → x = r) (h2 : ¬ p → y = r) : @br R (decide p) ⟨x⟩ ⟨y⟩ = r := by
  by_cases h : p
  · simp only [h, decide_true]; exact h1 h
  · simp only [h, decide_false]; exact h2 h
theorem want_dect {p : Prop} [Decidable p] {x y : Option R} (h1 : p → x = r) (h2 : ¬ p → y = r) : @sel R (wantB (.bool (decide p)) true) ⟨x⟩ ⟨y⟩ = r := by
  by_cases h : p
  · simp only [h, decide_true]; exact h1 h
  · simp only [h, decide_false]; exact h2 h
theorem want_decf {p : Prop} [Decidable p] {x y : Option R} (h1 : p → y = r) (h2 : ¬ p → x = r) : @sel R (wantB (.bool (decide p)) false) ⟨x⟩ ⟨y⟩ = r := by
  by_cases h : p
  · simp only [h, decide_true]; exact h1 h
  · simp only [h, decide_false]; exact h2 h
theorem br_ndec {p : Prop} [Decidable p] {x y : Option R} (h1 : ¬ p → x = r) (h2 : p → y = r) : @br R (!decide p) ⟨x⟩ ⟨y⟩ = r := by
  by_cases h : p
  · simp only [h, decide_true]; exact h2 h
  · simp only [h, decide_false]; exact h1 h
theorem want_ndect {p : Prop} [Decidable p] {x y : Option R} (h1 : ¬ p → x = r) (h2 : p → y = r) : @sel R (wantB (.bool (!decide p)) true) ⟨x⟩ ⟨y⟩ = r := by
  by_cases h : p
  · simp only [h, decide_true]; exact h2 h
  · simp only [h, decide_false]; exact h1 h
theorem want_ndecf {p : Prop} [Decidable p] {x y : Option R} (h1 : ¬ p → y = r) (h2 : p → x = r) : @sel R (wantB (.bool (!decide p)) false) ⟨x⟩ ⟨y⟩ = r := by
  by_cases h : p
  · simp only [h, decide_true]; exact h2 h
  · simp only [h, decide_false]; exact h1 h
theorem br_ok {t : Bool} {x : Option R} {y : Lz R} (h : t = true) (h1 : x = r) : @br R t ⟨x⟩ y = r := by subst h; exact h1
theorem br_no {t : Bool} {x : Lz R} {y : Option R} (h : t = false) (h1 : y = r) : @br R t x ⟨y⟩ = r := by subst h; exact h1
section
variable {Q : Type}
@[go_sem] theorem bnd2_br (t : Bool) (x y : Option (AV × St)) (k : AV → St → Option Q) : @bnd2 Q (@br _ t ⟨x⟩ ⟨y⟩) ⟨k⟩ = @br Q t ⟨@bnd2 Q x ⟨k⟩⟩ ⟨@bnd2 Q y ⟨k⟩⟩ := by cases t <;> rfl
@[go_sem] theorem bnd2_sel (t : Option Bool) (x y : Option (AV × St)) (k : AV → St → Option Q) : @bnd2 Q (@sel _ t ⟨x⟩ ⟨y⟩) ⟨k⟩ = @sel Q t ⟨@bnd2 Q x ⟨k⟩⟩ ⟨@bnd2 Q y ⟨k⟩⟩ := by
  match t with
  | none => rfl
  | some true => rfl
  | some false => rfl
@[go_sem] theorem bnd2_bnd {α : Type} (x : Option α) (g : α → Option (AV × St)) (k : AV → St → Option Q) : @bnd2 Q (@bnd α _ x ⟨g⟩) ⟨k⟩ = @bnd α Q x ⟨fun a => @bnd2 Q (g a) ⟨k⟩⟩ := by cases x <;> rfl
end
section
variable {R : Type} (C : Cfg) (call : Caller) (f : FuncId) (q : Bool) (ρ : Env) (σr σ : St) (d : Option Tmp) (ty : TypeId) (pos : String) (af : Array Edge) (gd : Option (Nat × Bool)) (k : AV → St → Option R)
@[go_sem ↓] theorem ev_build2 (t : TypeId) (parts : Array (Nat × Operand)) : @bnd2 R (evalOp C call f q ρ σr σ ⟨d, .build t parts, ty, pos, af, gd⟩) ⟨k⟩ = @bnd _ R (aBuild C.T t (parts.toList.map fun (i, x) => (i, val ρ x))) ⟨fun v => k v σ⟩ := by simp only [bnd2_of]; exact ev_build (R := R) (k := (fun p => k p.1 p.2)) ..
def buildH (T : Tab) (t : TypeId) (parts : List (Nat × AV)) (z : AV) (d : Option Ty) : Option AV :=
  match z, d with
  | .agg s zs, some d => (match Tab.comps d with | some ts => if T.same s t then (fillA T ts zs parts).map (.agg t) else none | none => none)
  | _, _ => none
@[go_sem] theorem aBuild_eq (T : Tab) (t : TypeId) (parts : List (Nat × AV)) : aBuild T t parts = buildH T t parts (T.zero t) (T.ty t) := nr rfl
@[go_sem] theorem buildH_struct (T : Tab) (t s : TypeId) (parts : List (Nat × AV)) (zs : List AV) (fs : List TypeId) : buildH T t parts (.agg s zs) (some (.struct fs)) = if T.same s t then (fillA T fs zs parts).map (.agg t) else none := nr rfl
@[go_sem] theorem buildH_array (T : Tab) (t s : TypeId) (parts : List (Nat × AV)) (zs : List AV) (n e : Nat) : buildH T t parts (.agg s zs) (some (.array n e)) = if T.same s t then (fillA T (List.replicate n e) zs parts).map (.agg t) else none := nr rfl
end
section
variable (σ : St) (n i : Nat)
@[go_sem ↓] theorem obj_trim : (σ.trim n).obj i = if i < n then σ.obj i else none := nr rfl
@[go_sem ↓] theorem next_trim : (σ.trim n).next = σ.next := nr rfl
@[go_sem ↓] theorem live_trim : (σ.trim n).live i = σ.live i := nr rfl
@[go_sem ↓] theorem ntok_trim : (σ.trim n).ntok = σ.ntok := nr rfl
end
def convI (s d : Option Ty) (n : Int) : Option AV := match s, d with | some _, some (.int k) => some (.int k (k.wrap n)) | _, _ => none
@[go_sem] theorem convI_some (s : Ty) (k : IntKind) (n : Int) : convI (some s) (some (.int k)) n = some (.int k (k.wrap n)) := nr rfl
/-- a row of bytes as a text -/
@[go_sem] theorem conv_int {T : Tab} {m : Mem} (s d : TypeId) (k : IntKind) (n : Int) : @aConvert T m s d (.int k n) = convI (T.ty s) (T.ty d) n := by
  unfold aConvert convI
  cases T.ty d with
  | none => cases T.ty s <;> rfl
  | some D =>
    cases D <;> cases T.ty s with
    | none => rfl
    | some E => first | rfl | (cases E <;> first | rfl | simp [elemIs])
/-- the i-th of a list (of none: one of the type) -/
def at0 {α : Type} [Inhabited α] (l : List α) (i : Int) : α := (l[i.toNat]?).getD default
theorem at0_get {α : Type} [Inhabited α] {l : List α} {i : Int} (h0 : 0 ≤ i) (h1 : i < l.length) : l[i.toNat]? = some (at0 l i) := by
  have : i.toNat < l.length := by omega
  simp [at0, this]
theorem at0_nat {α : Type} [Inhabited α] {l : List α} {i : Nat} (h1 : i < l.length) : at0 l (i : Int) = l[i] := by
  simp [at0, h1]
theorem at0_mem {α : Type} [Inhabited α] {l : List α} {i : Int} (h0 : 0 ≤ i) (h1 : i < l.length) : at0 l i ∈ l := by
  have := at0_get h0 h1
  exact List.mem_of_getElem? this
theorem idx_at {α : Type} [Inhabited α] {g : α → AV} {l : List α} {i : Int} {k : AV → Option R} {y : Lz R} (h0 : 0 ≤ i) (h1 : i < l.length) (h : k (g (at0 l i)) = r) : @br R (idxOk i l.length) ⟨@bnd AV R ((l.map g)[i.toNat]?) ⟨k⟩⟩ y = r := by
  have e : (l.map g)[i.toNat]? = some (g (at0 l i)) := by rw [List.getElem?_map, at0_get h0 h1]; rfl
  rw [e, show idxOk i l.length = true by simp [idxOk, h0, h1]]
  exact h
theorem br_idx {i : Int} {n : Nat} {x : Option R} {y : Lz R} (h0 : 0 ≤ i) (h1 : i < n) (h : x = r) : @br R (idxOk i n) ⟨x⟩ y = r := by
  rw [show idxOk i n = true by simp [idxOk, h0, h1]]; exact h
theorem bnd_at {α : Type} [Inhabited α] {g : α → AV} {l : List α} {i : Int} {k : AV → Option R} (h0 : 0 ≤ i) (h1 : i < l.length) (h : k (g (at0 l i)) = r) : @bnd AV R ((l.map g)[i.toNat]?) ⟨k⟩ = r := by
  have e : (l.map g)[i.toNat]? = some (g (at0 l i)) := by rw [List.getElem?_map, at0_get h0 h1]; rfl
  rw [e]; exact h
theorem slice_hi {α : Type} {T : Tab} {t e : TypeId} {b : Bool} {g : α → AV} {l : List α} {tok : Option Nat} {kd : IntKind} {n : Int} {k : AV → Option R} (ht : T.ty t = some (.slice e)) (h0 : 0 ≤ n) (h1 : n ≤ l.length) (h : k (.list e b ((l.take n.toNat).map g) none) = r) :
    @bnd AV R (aSlice T t (.list e b (l.map g) tok) none (some (.int kd n)) none) ⟨k⟩ = r := by
  have h2 : n.toNat ≤ l.length := by omega
  simp only [aSlice, ht, bound, h0, if_true, Option.bind_some, List.length_map, Nat.zero_le, h2, and_self, List.drop_zero, ← List.map_take]
  exact h
theorem slice_lo {α : Type} {T : Tab} {t e : TypeId} {b : Bool} {g : α → AV} {l : List α} {tok : Option Nat} {kd : IntKind} {n : Int} {k : AV → Option R} (ht : T.ty t = some (.slice e)) (h0 : 0 ≤ n) (h1 : n ≤ l.length) (h : k (.list e b ((l.drop n.toNat).map g) none) = r) :
    @bnd AV R (aSlice T t (.list e b (l.map g) tok) (some (.int kd n)) none none) ⟨k⟩ = r := by
  have h2 : n.toNat ≤ l.length := by omega
  simp only [aSlice, ht, bound, h0, if_true, Option.bind_some, List.length_map, h2, Nat.le_refl, and_self, List.take_of_length_le (Nat.le_of_eq (List.length_map g)), ← List.map_drop]
  exact h
theorem slice_lh {α : Type} {T : Tab} {t e : TypeId} {b : Bool} {g : α → AV} {l : List α} {tok : Option Nat} {kd kd' : IntKind} {n m : Int} {k : AV → Option R} (ht : T.ty t = some (.slice e)) (h0 : 0 ≤ n) (h1 : n ≤ m) (h3 : m ≤ l.length) (h : k (.list e b (((l.take m.toNat).drop n.toNat).map g) none) = r) :
    @bnd AV R (aSlice T t (.list e b (l.map g) tok) (some (.int kd n)) (some (.int kd' m)) none) ⟨k⟩ = r := by
  have h2 : m.toNat ≤ l.length := by omega
  have h4 : n.toNat ≤ m.toNat := by omega
  have h5 : 0 ≤ m := by omega
  simp only [aSlice, ht, bound, h0, h5, if_true, Option.bind_some, List.length_map, h2, h4, and_self, ← List.map_take, ← List.map_drop]
  exact h
attribute [go_sem] mapTy
@[go_sem] theorem mem_st (σ : St) : @Mem.st ⟨σ⟩ = σ := nr rfl
theorem beqI (a b : Int) : (a == b) = decide (a = b) := by
  by_cases h : a = b <;> simp [h]
theorem bneI (a b : Int) : (a != b) = !decide (a = b) := by
  by_cases h : a = b <;> simp [h]
theorem beqL (a b : List UInt8) : (a == b) = decide (a = b) := by
  by_cases h : a = b <;> simp [h]
/-- A loop: N rounds, each of which leads to the next, or out; behind them it leads out. -/
theorem iter_rule {B : Env → St → (Ex → Env → St → Option R) → Option R} {k : Ex → Env → St → Option R} {X : Option R} (I : Nat → Env → St → Prop) (N : Nat)
    (step : ∀ i ρ σ, i < N → I i ρ σ → ∀ K : Ex → Env → St → Option R, (∀ ρ' σ', I (i + 1) ρ' σ' → K .normal ρ' σ' = X) → (∀ j, K (.exit j) = k (.exit j)) → K .ret = k .ret → B ρ σ K = X)
    (last : ∀ ρ σ, I N ρ σ → ∀ K : Ex → Env → St → Option R, (∀ j, K (.exit j) = k (.exit j)) → K .ret = k .ret → B ρ σ K = X) :
    ∀ (n i : Nat) (ρ : Env) (σ : St), i ≤ N → N < i + n → I i ρ σ → iterK B n ρ σ k = X
  | 0, i, ρ, σ, h1, h2, _ => by omega
  | n + 1, i, ρ, σ, h1, h2, hI => by
    have hx : ∀ j, (fun e ρ' σ' => @nx R e ⟨iterK B n ρ' σ' k⟩ ⟨k e ρ' σ'⟩) (Ex.exit j) = k (.exit j) := fun j => rfl
    have hr : (fun e ρ' σ' => @nx R e ⟨iterK B n ρ' σ' k⟩ ⟨k e ρ' σ'⟩) Ex.ret = k .ret := rfl
    by_cases hi : i < N
    · exact step i ρ σ hi hI _ (fun ρ' σ' hI' => iter_rule I N step last n (i + 1) ρ' σ' (by omega) (by omega) hI') hx hr
    · obtain rfl : i = N := by omega
      exact last ρ σ hI _ hx hr
/-- A loop whose every round either leads to a next one, or out: what it comes to is told by a measure that falls. -/
theorem iter_fall {B : Env → St → (Ex → Env → St → Option R) → Option R} {k : Ex → Env → St → Option R} {X : Option R} (I : Nat → Env → St → Prop)
    (step : ∀ m ρ σ, I m ρ σ → ∀ K : Ex → Env → St → Option R, (∀ m' ρ' σ', m' < m → I m' ρ' σ' → K .normal ρ' σ' = X) → (∀ j, K (.exit j) = k (.exit j)) → K .ret = k .ret → B ρ σ K = X) :
    ∀ (n m : Nat) (ρ : Env) (σ : St), m < n → I m ρ σ → iterK B n ρ σ k = X
  | 0, m, ρ, σ, h, _ => by omega
  | n + 1, m, ρ, σ, h, hI => step m ρ σ hI _ (fun m' ρ' σ' hm' hI' => iter_fall I step n m' ρ' σ' (by omega) hI') (fun j => rfl) rfl
end
end Go.Proofs.Yticlihmbikcohaa.Va
