/- the rules of a walk, for whatever is to be shown of its end -/
import Derived.Test.YticlihmbikcohaaVaGr
namespace Go.Proofs.Yticlihmbikcohaa.Va
open Go
set_option linter.unusedVariables false
set_option linter.unusedSimpArgs false
/-- P holds of the walk's end. -/
def Wp {α : Type} (P : α → Prop) (x : α) : Prop := P x
/-- It ends, and so. -/
def Sat {R : Type} (Q : R → Prop) (x : Option R) : Prop := ∃ a, x = some a ∧ Q a
theorem Sat.of {R : Type} {Q : R → Prop} {x : Option R} (h : Wp (Sat Q) x) : ∃ a, x = some a ∧ Q a := h
theorem Sat.go {R : Type} {Q : R → Prop} {x : Option R} (h : Wp (Sat Q) x) : Sat Q x := h
theorem wp_some {R : Type} {Q : R → Prop} {a : R} (h : Q a) : Wp (Sat Q) (some a) := ⟨a, rfl, h⟩
theorem wp_eq {α : Type} {x r : α} (h : Wp (· = r) x) : x = r := h
namespace W
section
variable {R : Type} {P : Option R → Prop}
theorem to {x y : Option R} (h : x = y) (hy : Wp P y) : Wp P x := h ▸ hy
theorem br_split {t : Bool} {x y : Option R} (h1 : t = true → Wp P x) (h2 : t = false → Wp P y) : Wp P (@br R t ⟨x⟩ ⟨y⟩) := by
  cases t
  · exact h2 rfl
  · exact h1 rfl
theorem want_split {t w : Bool} {x y : Option R} (h1 : t = w → Wp P x) (h2 : t = (!w) → Wp P y) : Wp P (@sel R (wantB (.bool t) w) ⟨x⟩ ⟨y⟩) := by
  cases t <;> cases w
  · exact h1 rfl
  · exact h2 rfl
  · exact h2 rfl
  · exact h1 rfl
theorem br_dec {p : Prop} [Decidable p] {x y : Option R} (h1 : p → Wp P x) (h2 : ¬ p → Wp P y) : Wp P (@br R (decide p) ⟨x⟩ ⟨y⟩) := by
  by_cases h : p
  · simp only [h, decide_true]; exact h1 h
  · simp only [h, decide_false]; exact h2 h
theorem want_dect {p : Prop} [Decidable p] {x y : Option R} (h1 : p → Wp P x) (h2 : ¬ p → Wp P y) : Wp P (@sel R (wantB (.bool (decide p)) true) ⟨x⟩ ⟨y⟩) := by
  by_cases h : p
  · simp only [h, decide_true]; exact h1 h
  · simp only [h, decide_false]; exact h2 h
theorem want_decf {p : Prop} [Decidable p] {x y : Option R} (h1 : p → Wp P y) (h2 : ¬ p → Wp P x) : Wp P (@sel R (wantB (.bool (decide p)) false) ⟨x⟩ ⟨y⟩) := by
  by_cases h : p
  · simp only [h, decide_true]; exact h1 h
  · simp only [h, decide_false]; exact h2 h
theorem br_ndec {p : Prop} [Decidable p] {x y : Option R} (h1 : ¬ p → Wp P x) (h2 : p → Wp P y) : Wp P (@br R (!decide p) ⟨x⟩ ⟨y⟩) := by
  by_cases h : p
  · simp only [h, decide_true]; exact h2 h
  · simp only [h, decide_false]; exact h1 h
theorem want_ndect {p : Prop} [Decidable p] {x y : Option R} (h1 : ¬ p → Wp P x) (h2 : p → Wp P y) : Wp P (@sel R (wantB (.bool (!decide p)) true) ⟨x⟩ ⟨y⟩) := by
  by_cases h : p
  · simp only [h, decide_true]; exact h2 h
  · simp only [h, decide_false]; exact h1 h
theorem want_ndecf {p : Prop} [Decidable p] {x y : Option R} (h1 : ¬ p → Wp P y) (h2 : p → Wp P x) : Wp P (@sel R (wantB (.bool (!decide p)) false) ⟨x⟩ ⟨y⟩) := by
  by_cases h : p
  · simp only [h, decide_true]; exact h2 h
  · simp only [h, decide_false]; exact h1 h
theorem br_ok {t : Bool} {x : Option R} {y : Lz R} (h : t = true) (h1 : Wp P x) : Wp P (@br R t ⟨x⟩ y) := by subst h; exact h1
theorem br_no {t : Bool} {x : Lz R} {y : Option R} (h : t = false) (h1 : Wp P y) : Wp P (@br R t x ⟨y⟩) := by subst h; exact h1
theorem idx_at {α : Type} [Inhabited α] {g : α → AV} {l : List α} {i : Int} {k : AV → Option R} {y : Lz R} (h0 : 0 ≤ i) (h1 : i < l.length) (h : Wp P (k (g (at0 l i)))) : Wp P (@br R (idxOk i l.length) ⟨@bnd AV R ((l.map g)[i.toNat]?) ⟨k⟩⟩ y) := to (Va.idx_at h0 h1 rfl) h
theorem br_idx {i : Int} {n : Nat} {x : Option R} {y : Lz R} (h0 : 0 ≤ i) (h1 : i < n) (h : Wp P x) : Wp P (@br R (idxOk i n) ⟨x⟩ y) := to (Va.br_idx h0 h1 rfl) h
theorem bnd_at {α : Type} [Inhabited α] {g : α → AV} {l : List α} {i : Int} {k : AV → Option R} (h0 : 0 ≤ i) (h1 : i < l.length) (h : Wp P (k (g (at0 l i)))) : Wp P (@bnd AV R ((l.map g)[i.toNat]?) ⟨k⟩) := to (Va.bnd_at h0 h1 rfl) h
theorem slice_hi {α : Type} {T : Tab} {t e : TypeId} {b : Bool} {g : α → AV} {l : List α} {tok : Option Nat} {kd : IntKind} {n : Int} {k : AV → Option R} (ht : T.ty t = some (.slice e)) (h0 : 0 ≤ n) (h1 : n ≤ l.length) (h : Wp P (k (.list e b ((l.take n.toNat).map g) none))) :
    Wp P (@bnd AV R (aSlice T t (.list e b (l.map g) tok) none (some (.int kd n)) none) ⟨k⟩) := to (Va.slice_hi ht h0 h1 rfl) h
theorem slice_lo {α : Type} {T : Tab} {t e : TypeId} {b : Bool} {g : α → AV} {l : List α} {tok : Option Nat} {kd : IntKind} {n : Int} {k : AV → Option R} (ht : T.ty t = some (.slice e)) (h0 : 0 ≤ n) (h1 : n ≤ l.length) (h : Wp P (k (.list e b ((l.drop n.toNat).map g) none))) :
    Wp P (@bnd AV R (aSlice T t (.list e b (l.map g) tok) (some (.int kd n)) none none) ⟨k⟩) := to (Va.slice_lo ht h0 h1 rfl) h
theorem slice_lh {α : Type} {T : Tab} {t e : TypeId} {b : Bool} {g : α → AV} {l : List α} {tok : Option Nat} {kd kd' : IntKind} {n m : Int} {k : AV → Option R} (ht : T.ty t = some (.slice e)) (h0 : 0 ≤ n) (h1 : n ≤ m) (h3 : m ≤ l.length) (h : Wp P (k (.list e b (((l.take m.toNat).drop n.toNat).map g) none))) :
    Wp P (@bnd AV R (aSlice T t (.list e b (l.map g) tok) (some (.int kd n)) (some (.int kd' m)) none) ⟨k⟩) := to (Va.slice_lh ht h0 h1 h3 rfl) h
/-- A call that is known to end, and how. -/
theorem call {X : Option (AV × St)} {Q : AV × St → Prop} {k : AV → St → Option R} (h : Sat Q X) (hk : ∀ v s, Q (v, s) → Wp P (k v s)) : Wp P (@bnd2 R X ⟨k⟩) := by
  obtain ⟨⟨v, s⟩, rfl, hq⟩ := h
  exact hk v s hq
theorem gw_app {T : Tab} {mr : Mem} {σ : St} {t e : TypeId} {xs ys : List AV} {v x : AV} {kk : Option Nat} {k : AV → St → Option R} {y : Lz R} (hg : Gw e xs σ v kk) (hy : ys ≠ []) (ht : T.ty t = some (.slice e)) (hn : @newsOf T mr false e x = some ys) (hr : roomy T e (xs.length + ys.length) = true)
    (h : Wp P (k (.list e false (xs ++ ys) (some (σ.ntok + 1))) (σ.tokNew kk))) : Wp P (@br R (noView v) ⟨@bnd2 R (@aAppend T mr ⟨σ⟩ false t v x) ⟨k⟩⟩ y) := to (Va.gw_app hg hy ht hn hr rfl) h
theorem gf_app {T : Tab} {mr : Mem} {σ : St} {t e : TypeId} {xs ys : List AV} {v x : AV} {kk : Option Nat} {k : AV → St → Option R} {y : Lz R} (hg : Gf e xs σ v kk) (hy : ys ≠ []) (ht : T.ty t = some (.slice e)) (hn : @newsOf T mr false e x = some ys) (hr : roomy T e (xs.length + ys.length) = true)
    (h : Wp P (k (.list e false (xs ++ ys) (some (σ.ntok + 1))) (σ.tokNew kk))) : Wp P (@br R (noView v) ⟨@bnd2 R (@aAppend T mr ⟨σ⟩ false t v x) ⟨k⟩⟩ y) := to (Va.gf_app hg hy ht hn hr rfl) h
theorem gw_len {T : Tab} {m : Mem} {σ : St} {t e : TypeId} {xs : List AV} {v : AV} {kk : Option Nat} {k : AV → Option R} (hg : Gw e xs σ v kk) (ht : T.ty t = some (.slice e)) (h : Wp P (k (.int .i64 xs.length))) : Wp P (@bnd _ R (@aLen T m t v) ⟨k⟩) := to (Va.gw_len hg ht rfl) h
theorem gw_idx {T : Tab} {σ : St} {t e : TypeId} {xs : List AV} {v x : AV} {kk : Option Nat} {k : AV → Option R} {kd : IntKind} {i : Int} (hg : Gw e xs σ v kk) (ht : T.ty t = some (.slice e)) (h0 : 0 ≤ i) (hx : xs[i.toNat]? = some x) (h : Wp P (k (.fptr e x))) : Wp P (@bnd _ R (aIndexAddr T t v (.int kd i)) ⟨k⟩) := to (Va.gw_idx hg ht h0 hx rfl) h
theorem gw_ret {σ : St} {e : TypeId} {xs : List AV} {v : AV} {kk : Option Nat} {k : AV → Option R} (hg : Gw e xs σ v kk) (h : Wp P (k (growR e xs))) : Wp P (@bnd _ R (retV σ v) ⟨k⟩) := to (Va.gw_ret hg rfl) h
theorem gw_ret_tup {σ : St} {e : TypeId} {xs us vs : List AV} {v : AV} {kk : Option Nat} {k : AV → Option R} (hg : Gw e xs σ v kk) (hv : freezeL σ vs = some us) (h : Wp P (k (.tup (growR e xs :: us)))) : Wp P (@bnd _ R (retV σ (.tup (v :: vs))) ⟨k⟩) := to (Va.gw_ret_tup hg hv rfl) h
theorem call_gw {X : Option (AV × St)} {σ : St} {ids : List Nat} {e : TypeId} {xs : List AV} {k : AV → St → Option R} (hc : X = some (growR e xs, valSt (growR e xs))) (hids : ids = [])
    (h : ∀ v σ' kk, Gw e xs σ' v kk → (σ' = σ ∧ kk = none ∨ σ' = σ.tokNew none ∧ kk = some σ.ntok) → Wp P (k v σ')) :
    Wp P (@bnd2 R X ⟨fun v s => @br R (noMem v) ⟨k v σ⟩ ⟨@br R false ⟨none⟩ ⟨@bnd2 R (retok s (killAll σ ids) v) ⟨k⟩⟩⟩⟩) := by
  by_cases hx : xs = []
  · subst hx
    refine to (Va.call_gw (σ := σ) (e := e) (xs := []) hc hids ?_) (h (.mt true) σ none (.nil e σ) (.inl ⟨rfl, rfl⟩))
    rintro v σ' kk hg (⟨rfl, rfl⟩ | ⟨rfl, rfl⟩)
    · rcases hg with ⟨_, rfl, _⟩ | ⟨h0, _⟩
      · rfl
      · exact absurd rfl h0
    · rcases hg with ⟨_, _, h0⟩ | ⟨h0, _⟩
      · cases h0
      · exact absurd rfl h0
  · refine to (Va.call_gw (σ := σ) (e := e) (xs := xs) hc hids ?_) (h _ _ _ (.new hx) (.inr ⟨rfl, rfl⟩))
    rintro v σ' kk hg (⟨rfl, rfl⟩ | ⟨rfl, rfl⟩)
    · rcases hg with ⟨h0, _⟩ | ⟨_, t, h0, _⟩
      · exact absurd h0 hx
      · cases h0
    · rcases hg with ⟨h0, _⟩ | ⟨_, t, h0, rfl, _⟩
      · exact absurd h0 hx
      · cases h0; rfl
theorem call_gw_tup {X : Option (AV × St)} {σ : St} {ids : List Nat} {e : TypeId} {xs vs : List AV} {k : AV → St → Option R} (hc : X = some (.tup (growR e xs :: vs), valSt (growR e xs))) (hvs : pureL vs = true) (hids : ids = [])
    (h : ∀ v σ' kk, Gw e xs σ' v kk → (σ' = σ ∧ kk = none ∨ σ' = σ.tokNew none ∧ kk = some σ.ntok) → Wp P (k (.tup (v :: vs)) σ')) :
    Wp P (@bnd2 R X ⟨fun v s => @br R (noMem v) ⟨k v σ⟩ ⟨@br R false ⟨none⟩ ⟨@bnd2 R (retok s (killAll σ ids) v) ⟨k⟩⟩⟩⟩) := by
  by_cases hx : xs = []
  · subst hx
    refine to (Va.call_gw_tup (σ := σ) (e := e) (xs := []) hc hvs hids ?_) (h (.mt true) σ none (.nil e σ) (.inl ⟨rfl, rfl⟩))
    rintro v σ' kk hg (⟨rfl, rfl⟩ | ⟨rfl, rfl⟩)
    · rcases hg with ⟨_, rfl, _⟩ | ⟨h0, _⟩
      · rfl
      · exact absurd rfl h0
    · rcases hg with ⟨_, _, h0⟩ | ⟨h0, _⟩
      · cases h0
      · exact absurd rfl h0
  · refine to (Va.call_gw_tup (σ := σ) (e := e) (xs := xs) hc hvs hids ?_) (h _ _ _ (.new hx) (.inr ⟨rfl, rfl⟩))
    rintro v σ' kk hg (⟨rfl, rfl⟩ | ⟨rfl, rfl⟩)
    · rcases hg with ⟨h0, _⟩ | ⟨_, t, h0, _⟩
      · exact absurd h0 hx
      · cases h0
    · rcases hg with ⟨h0, _⟩ | ⟨_, t, h0, rfl, _⟩
      · exact absurd h0 hx
      · cases h0; rfl
/-- A loop: N rounds, each of which leads to the next, or out; behind them it leads out. -/
theorem iter_rule {B : Env → St → (Ex → Env → St → Option R) → Option R} {k : Ex → Env → St → Option R} (I : Nat → Env → St → Prop) (N : Nat)
    (step : ∀ i ρ σ, i < N → I i ρ σ → ∀ K : Ex → Env → St → Option R, (∀ ρ' σ', I (i + 1) ρ' σ' → Wp P (K .normal ρ' σ')) → (∀ j, K (.exit j) = k (.exit j)) → K .ret = k .ret → Wp P (B ρ σ K))
    (last : ∀ ρ σ, I N ρ σ → ∀ K : Ex → Env → St → Option R, (∀ j, K (.exit j) = k (.exit j)) → K .ret = k .ret → Wp P (B ρ σ K)) :
    ∀ (n i : Nat) (ρ : Env) (σ : St), i ≤ N → N < i + n → I i ρ σ → Wp P (iterK B n ρ σ k)
  | 0, i, ρ, σ, h1, h2, _ => by omega
  | n + 1, i, ρ, σ, h1, h2, hI => by
    by_cases hi : i < N
    · exact step i ρ σ hi hI _ (fun ρ' σ' hI' => iter_rule I N step last n (i + 1) ρ' σ' (by omega) (by omega) hI') (fun j => rfl) rfl
    · obtain rfl : i = N := by omega
      exact last ρ σ hI _ (fun j => rfl) rfl
theorem iter_fall {B : Env → St → (Ex → Env → St → Option R) → Option R} {k : Ex → Env → St → Option R} (I : Nat → Env → St → Prop)
    (step : ∀ m ρ σ, I m ρ σ → ∀ K : Ex → Env → St → Option R, (∀ m' ρ' σ', m' < m → I m' ρ' σ' → Wp P (K .normal ρ' σ')) → (∀ j, K (.exit j) = k (.exit j)) → K .ret = k .ret → Wp P (B ρ σ K)) :
    ∀ (n m : Nat) (ρ : Env) (σ : St), m < n → I m ρ σ → Wp P (iterK B n ρ σ k)
  | 0, m, ρ, σ, h, _ => by omega
  | n + 1, m, ρ, σ, h, hI => step m ρ σ hI _ (fun m' ρ' σ' hm' hI' => iter_fall I step n m' ρ' σ' (by omega) hI') (fun j => rfl) rfl
end
end W
section
variable {T : Tab} {σ : St}
/-- Where a number is among a map's entries. -/
def findI (k : Int) : List (Int × AV) → Nat → Option (Nat × AV)
  | [], _ => none
  | e :: es, i => if k = e.1 then some (i, e.2) else findI k es (i + 1)
def entI (kd : IntKind) (e : Int × AV) : AV × AV := (.int kd e.1, e.2)
theorem eraseIdx_map' {α β : Type} (f : α → β) : ∀ (l : List α) (i : Nat), (l.map f).eraseIdx i = (l.eraseIdx i).map f
  | [], i => by simp
  | a :: l, 0 => by simp
  | a :: l, i + 1 => by simp [eraseIdx_map' f l i]
theorem findAV_int (kd : IntKind) (k : Int) : ∀ (l : List (Int × AV)) (i : Nat), findAV (.int kd) (.int kd k) (l.map (entI kd)) i = some (findI k l i)
  | [], i => rfl
  | e :: l, i => by
    simp only [List.map_cons, entI, findAV, keyEq, and_self, if_true, findI]
    by_cases h : k = e.1
    · simp [h]
    · simp only [beq_eq_false_iff_ne.2 h, if_neg h]; exact findAV_int kd k l (i + 1)
theorem keyD_int {kt : TypeId} {kd : IntKind} (hk : T.ty kt = some (.int kd)) (k : Int) : keyD T kt (.int kd k) = some (.int kd) := by
  simp [keyD, hk, scalarD, fits]
theorem look_int {t kt vt : TypeId} {kd : IntKind} {id : Nat} {l : List (Int × AV)} {ok : Bool} (ht : T.ty t = some (.map kt vt)) (hk : T.ty kt = some (.int kd)) (hv : (T.ty vt).isSome = true) (ho : σ.obj id = some (.map kt vt (l.map (entI kd)))) (k : Int) :
    @aLookup T ⟨σ⟩ t (.map id) (.int kd k) ok = some (lookRes T vt ok (findI k l 0)) := by
  simp only [aLookup, ht, hv, if_true, keyD_int hk, Option.bind_some, mapOf, ho, and_self, findAV_int, Option.map_some]
def putI (l : List (Int × AV)) (k : Int) (v : AV) : List (Int × AV) := match findI k l 0 with | some (i, _) => l.set i (k, v) | none => l ++ [(k, v)]
theorem put_int {t kt vt : TypeId} {kd : IntKind} {id : Nat} {l : List (Int × AV)} (ht : T.ty t = some (.map kt vt)) (hk : T.ty kt = some (.int kd)) (ho : σ.obj id = some (.map kt vt (l.map (entI kd)))) (k : Int) {v : AV} (hf : fits T vt v = true) :
    @aMapPut T ⟨σ⟩ t (.map id) (.int kd k) v = some (σ.set id (.map kt vt ((putI l k v).map (entI kd)))) := by
  simp only [aMapPut, ht, keyD_int hk, Option.bind_some, hf, if_true, mapOf, ho, and_self, findAV_int, Option.map_some, putI]
  cases findI k l 0 with
  | none => simp [putE, entI]
  | some p => simp [putE, entI, List.map_set]
def delI (l : List (Int × AV)) (k : Int) : List (Int × AV) := match findI k l 0 with | some (i, _) => l.eraseIdx i | none => l
theorem findI_none {k : Int} : ∀ {l : List (Int × AV)} {i : Nat}, findI k l i = none ↔ ∀ e ∈ l, e.1 ≠ k
  | [], i => by simp [findI]
  | e :: l, i => by
    simp only [findI]
    by_cases h : k = e.1
    · simp [h]
    · simp only [if_neg h, List.mem_cons, forall_eq_or_imp, findI_none (l := l) (i := i + 1)]
      exact ⟨fun hh => ⟨fun hq => h hq.symm, hh⟩, fun hh => hh.2⟩
theorem findI_some {k : Int} : ∀ {l : List (Int × AV)} {i j : Nat} {v : AV}, findI k l i = some (j, v) → i ≤ j ∧ l[j - i]? = some (k, v)
  | [], i, j, v, h => by simp [findI] at h
  | e :: l, i, j, v, h => by
    simp only [findI] at h
    by_cases hk : k = e.1
    · rw [if_pos hk] at h
      simp only [Option.some.injEq, Prod.mk.injEq] at h
      obtain ⟨rfl, rfl⟩ := h
      exact ⟨Nat.le_refl _, by simp [hk]⟩
    · rw [if_neg hk] at h
      obtain ⟨h1, h2⟩ := findI_some h
      refine ⟨by omega, ?_⟩
      rw [show j - i = (j - (i + 1)) + 1 by omega]
      simpa using h2
end
end Go.Proofs.Yticlihmbikcohaa.Va
