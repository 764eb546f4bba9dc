/- rows that grow: rules of a walk -/
import Derived.Test.YticlihmbikcohaaVaAu
namespace Go.Proofs.Yticlihmbikcohaa.Va
open Go
set_option linter.unusedVariables false
set_option linter.unusedSimpArgs false
/-- v is a row of the elements xs that grew out of nil, by the token k. -/
def Gw (e : TypeId) (xs : List AV) (σ : St) (v : AV) (k : Option Nat) : Prop :=
  (xs = [] ∧ v = .mt true ∧ k = none) ∨ (xs ≠ [] ∧ ∃ t, k = some t ∧ v = .list e false xs (some (t + 1)) ∧ σ.live t = true ∧ t < σ.ntok)
/-- what a function of values hands back of such a row -/
def growR (e : TypeId) (xs : List AV) : AV := if xs = [] then .mt true else .list e false xs (some 1)
theorem Gw.nil (e : TypeId) (σ : St) : Gw e [] σ (.mt true) none := .inl ⟨rfl, rfl, rfl⟩
theorem Gw.live {e : TypeId} {σ : St} {xs : List AV} {t : Nat} (hne : xs ≠ []) (h : σ.live t = true) (hl : t < σ.ntok) : Gw e xs σ (.list e false xs (some (t + 1))) (some t) := .inr ⟨hne, t, rfl, rfl, h, hl⟩
theorem Gw.new {e : TypeId} {σ : St} {xs : List AV} {q : Option Nat} (hne : xs ≠ []) : Gw e xs (σ.tokNew q) (.list e false xs (some (σ.ntok + 1))) (some σ.ntok) := .inr ⟨hne, σ.ntok, rfl, rfl, by simp [St.tokNew], by simp [St.tokNew]⟩
theorem Gw.tokNew {e : TypeId} {xs : List AV} {σ : St} {v : AV} {k : Option Nat} (h : Gw e xs σ v k) {q : Option Nat} (hq : k = none ∨ q ≠ k) : Gw e xs (σ.tokNew q) v k := by
  rcases h with h | ⟨h0, t, rfl, rfl, h1, h2⟩
  · exact .inl h
  · refine .inr ⟨h0, t, rfl, rfl, ?_, by simp [St.tokNew]; omega⟩
    have hq : q ≠ some t := by rcases hq with hq | hq; cases hq; exact hq
    simp only [St.tokNew]
    rw [if_neg (by omega), if_neg hq]
    exact h1
theorem Gw.same {e : TypeId} {xs : List AV} {σ σ' : St} {v : AV} {k : Option Nat} (h : Gw e xs σ v k) (hl : ∀ t, σ'.live t = σ.live t) (hn : σ'.ntok = σ.ntok) : Gw e xs σ' v k := by
  rcases h with h | ⟨h0, t, rfl, rfl, h1, h2⟩
  · exact .inl h
  · exact .inr ⟨h0, t, rfl, rfl, by rw [hl]; exact h1, by omega⟩
theorem Gw.lt {e : TypeId} {xs : List AV} {σ : St} {v : AV} {t : Nat} (h : Gw e xs σ v (some t)) : t < σ.ntok := by
  rcases h with ⟨_, _, h⟩ | ⟨_, t', h, _, _, h2⟩
  · cases h
  · cases h; exact h2
section
variable {R : Type} {r : Option R}
theorem gw_append {T : Tab} {mr : Mem} {σ : St} {t e : TypeId} {xs ys : List AV} {v x : AV} {kk : Option Nat} {k : AV → St → Option R} (hg : Gw e xs σ v kk) (hy : ys ≠ []) (ht : T.ty t = some (.slice e)) (hn : @newsOf T mr false e x = some ys) (hr : roomy T e (xs.length + ys.length) = true)
    (h : k (.list e false (xs ++ ys) (some (σ.ntok + 1))) (σ.tokNew kk) = r) : @bnd2 R (@aAppend T mr ⟨σ⟩ false t v x) ⟨k⟩ = r := by
  have hs : isSliceT T t = true := by simp [isSliceT, ht]
  have he : elemT T t = e := by simp [elemT, ht]
  have hy' : ys.isEmpty = false := by cases ys <;> simp_all
  rcases hg with ⟨rfl, rfl, rfl⟩ | ⟨h0, tk, rfl, rfl, h1, h2⟩
  · rw [app_mt2, hs, he, hn]
    simp only [br_true, bnd_some]
    rw [show roomy T e ys.length = true by simpa using hr]
    simp only [br_true, hy', Bool.and_false]
    exact h
  · rw [app_list2, hs, he, hn]
    simp only [BEq.rfl, Bool.and_self, br_true, bnd_some, hr, h1, hy', Bool.and_false]
    exact h
/-- The same, or a literal that nothing was appended to yet. -/
def Gf (e : TypeId) (xs : List AV) (σ : St) (v : AV) (k : Option Nat) : Prop := Gw e xs σ v k ∨ (k = none ∧ v = .list e false xs (some 0))
theorem Gf.lit {e : TypeId} {xs : List AV} {σ : St} : Gf e xs σ (.list e false xs (some 0)) none := .inr ⟨rfl, rfl⟩
theorem Gf.tokNew {e : TypeId} {xs : List AV} {σ : St} {v : AV} {k : Option Nat} (h : Gf e xs σ v k) {q : Option Nat} (hq : k = none ∨ q ≠ k) : Gf e xs (σ.tokNew q) v k := h.imp (·.tokNew hq) id
theorem Gf.same {e : TypeId} {xs : List AV} {σ σ' : St} {v : AV} {k : Option Nat} (h : Gf e xs σ v k) (hl : ∀ t, σ'.live t = σ.live t) (hn : σ'.ntok = σ.ntok) : Gf e xs σ' v k := h.imp (·.same hl hn) id
theorem gf_append {T : Tab} {mr : Mem} {σ : St} {t e : TypeId} {xs ys : List AV} {v x : AV} {kk : Option Nat} {k : AV → St → Option R} (hg : Gf e xs σ v kk) (hy : ys ≠ []) (ht : T.ty t = some (.slice e)) (hn : @newsOf T mr false e x = some ys) (hr : roomy T e (xs.length + ys.length) = true)
    (h : k (.list e false (xs ++ ys) (some (σ.ntok + 1))) (σ.tokNew kk) = r) : @bnd2 R (@aAppend T mr ⟨σ⟩ false t v x) ⟨k⟩ = r := by
  rcases hg with hg | ⟨rfl, rfl⟩
  · exact gw_append hg hy ht hn hr h
  · have hs : isSliceT T t = true := by simp [isSliceT, ht]
    have he : elemT T t = e := by simp [elemT, ht]
    have hy' : ys.isEmpty = false := by cases ys <;> simp_all
    rw [app_full2, hs, he, hn]
    simp only [BEq.rfl, Bool.and_self, br_true, bnd_some, hr, hy', Bool.and_false]
    exact h
theorem gw_noView {σ : St} {e : TypeId} {xs : List AV} {v : AV} {kk : Option Nat} (hg : Gw e xs σ v kk) : noView v = true := by
  rcases hg with ⟨rfl, rfl, rfl⟩ | ⟨h0, tk, rfl, rfl, h1, h2⟩ <;> rfl
theorem gw_app {T : Tab} {mr : Mem} {σ : St} {t e : TypeId} {xs ys : List AV} {v x : AV} {kk : Option Nat} {k : AV → St → Option R} {y : Lz R} (hg : Gw e xs σ v kk) (hy : ys ≠ []) (ht : T.ty t = some (.slice e)) (hn : @newsOf T mr false e x = some ys) (hr : roomy T e (xs.length + ys.length) = true)
    (h : k (.list e false (xs ++ ys) (some (σ.ntok + 1))) (σ.tokNew kk) = r) : @br R (noView v) ⟨@bnd2 R (@aAppend T mr ⟨σ⟩ false t v x) ⟨k⟩⟩ y = r :=
  br_ok (gw_noView hg) (gw_append hg hy ht hn hr h)
theorem gf_app {T : Tab} {mr : Mem} {σ : St} {t e : TypeId} {xs ys : List AV} {v x : AV} {kk : Option Nat} {k : AV → St → Option R} {y : Lz R} (hg : Gf e xs σ v kk) (hy : ys ≠ []) (ht : T.ty t = some (.slice e)) (hn : @newsOf T mr false e x = some ys) (hr : roomy T e (xs.length + ys.length) = true)
    (h : k (.list e false (xs ++ ys) (some (σ.ntok + 1))) (σ.tokNew kk) = r) : @br R (noView v) ⟨@bnd2 R (@aAppend T mr ⟨σ⟩ false t v x) ⟨k⟩⟩ y = r := by
  refine br_ok ?_ (gf_append hg hy ht hn hr h)
  rcases hg with hg | ⟨rfl, rfl⟩
  · exact gw_noView hg
  · rfl
/-- how many there are -/
theorem gw_len {T : Tab} {m : Mem} {σ : St} {t e : TypeId} {xs : List AV} {v : AV} {kk : Option Nat} {k : AV → Option R} (hg : Gw e xs σ v kk) (ht : T.ty t = some (.slice e)) (h : k (.int .i64 xs.length) = r) : @bnd _ R (@aLen T m t v) ⟨k⟩ = r := by
  rcases hg with ⟨rfl, rfl, rfl⟩ | ⟨h0, tk, rfl, rfl, h1, h2⟩ <;> simpa [aLen, ht, bnd] using h
/-- one of them -/
theorem gw_idx {T : Tab} {σ : St} {t e : TypeId} {xs : List AV} {v x : AV} {kk : Option Nat} {k : AV → Option R} {kd : IntKind} {i : Int} (hg : Gw e xs σ v kk) (ht : T.ty t = some (.slice e)) (h0 : 0 ≤ i) (hx : xs[i.toNat]? = some x) (h : k (.fptr e x) = r) : @bnd _ R (aIndexAddr T t v (.int kd i)) ⟨k⟩ = r := by
  have hlt : i < xs.length := by have := (List.getElem?_eq_some_iff.1 hx).1; omega
  rcases hg with ⟨rfl, rfl, rfl⟩ | ⟨_, tk, rfl, rfl, h1, h2⟩
  · simp at hx
  · simp only [aIndexAddr, ht, h0, hlt, and_self, if_true, hx]; exact h
theorem gw_ret {σ : St} {e : TypeId} {xs : List AV} {v : AV} {kk : Option Nat} {k : AV → Option R} (hg : Gw e xs σ v kk) (h : k (growR e xs) = r) : @bnd _ R (retV σ v) ⟨k⟩ = r := by
  rcases hg with ⟨rfl, rfl, rfl⟩ | ⟨h0, tk, rfl, rfl, h1, h2⟩
  · exact h
  · simp only [retV, retV1, h1, if_true, bnd_some]
    simpa [growR, h0] using h
theorem gw_ret_tup {σ : St} {e : TypeId} {xs us vs : List AV} {v : AV} {kk : Option Nat} {k : AV → Option R} (hg : Gw e xs σ v kk) (hv : freezeL σ vs = some us) (h : k (.tup (growR e xs :: us)) = r) : @bnd _ R (retV σ (.tup (v :: vs))) ⟨k⟩ = r := by
  rcases hg with ⟨rfl, rfl, rfl⟩ | ⟨h0, tk, rfl, rfl, h1, h2⟩
  · simp only [retV, retV1, freeze, hv, bnd_some]; exact h
  · simp only [retV, retV1, h1, if_true, hv, bnd_some]
    simpa [growR, h0] using h
/-- what a value that grew is handed to a function of values as -/
def frz (e : TypeId) (xs : List AV) : AV := if xs = [] then .mt true else .list e false xs none
theorem kill_nil (σ : St) : killAll σ [] = σ := rfl
theorem call_gw {X : Option (AV × St)} {σ : St} {ids : List Nat} {e : TypeId} {xs : List AV} {k : AV → St → Option R} (hc : X = some (growR e xs, valSt (growR e xs))) (hids : ids = [])
    (h : ∀ v σ' kk, Gw e xs σ' v kk → (σ' = σ ∧ kk = none ∨ σ' = σ.tokNew none ∧ kk = some σ.ntok) → k v σ' = r) :
    @bnd2 R X ⟨fun v s => @br R (noMem v) ⟨k v σ⟩ ⟨@br R false ⟨none⟩ ⟨@bnd2 R (retok s (killAll σ ids) v) ⟨k⟩⟩⟩⟩ = r := by
  subst hids
  rw [hc]
  simp only [bnd2_some, kill_nil]
  by_cases hx : xs = []
  · subst hx
    simp only [growR, if_true, noMem, br_true]
    exact h _ _ _ (.nil e σ) (.inl ⟨rfl, rfl⟩)
  · simp only [growR, if_neg hx, noMem, br_false, retok, retok1, valSt, valSt1, BEq.rfl, if_true, bnd2_some]
    exact h _ _ _ (.new hx) (.inr ⟨rfl, rfl⟩)
theorem call_gw_tup {X : Option (AV × St)} {σ : St} {ids : List Nat} {e : TypeId} {xs vs : List AV} {k : AV → St → Option R} (hc : X = some (.tup (growR e xs :: vs), valSt (growR e xs))) (hvs : pureL vs = true) (hids : ids = [])
    (h : ∀ v σ' kk, Gw e xs σ' v kk → (σ' = σ ∧ kk = none ∨ σ' = σ.tokNew none ∧ kk = some σ.ntok) → k (.tup (v :: vs)) σ' = r) :
    @bnd2 R X ⟨fun v s => @br R (noMem v) ⟨k v σ⟩ ⟨@br R false ⟨none⟩ ⟨@bnd2 R (retok s (killAll σ ids) v) ⟨k⟩⟩⟩⟩ = r := by
  subst hids
  rw [hc]
  simp only [bnd2_some, kill_nil]
  by_cases hx : xs = []
  · subst hx
    have hh := h _ _ _ (.nil e σ) (.inl ⟨rfl, rfl⟩)
    simp only [growR, if_true]
    cases hn : noMem (.tup (AV.mt true :: vs))
    · simp only [br_false, retok, hvs, if_true, retok1, pure1, Option.map_some, bnd2_some]; exact hh
    · simp only [br_true]; exact hh
  · simp only [growR, if_neg hx, noMem, noMemL, Bool.false_and, br_false, retok, hvs, retok1, valSt, valSt1, BEq.rfl, if_true, Option.map_some, bnd2_some]
    exact h _ _ _ (.new hx) (.inr ⟨rfl, rfl⟩)
end
end Go.Proofs.Yticlihmbikcohaa.Va
