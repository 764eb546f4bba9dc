/- a row's arguments, as trees -/
import Derived.Test.YticlihmbikcohaaVaB
namespace Go.Proofs.Yticlihmbikcohaa.Va
open Go Go.RowKit
set_option linter.unusedVariables false
set_option linter.unusedSimpArgs false
section
variable {H : Type} {enc : TypeId × Value → H} {P : Program} {T : Tab} {w : World} {spare : Nat → Bool} {held : Bool}
theorem okWide_agg (hT : TabOk P T) {rc : Reach} {base : Nat} {t : TypeId} {d : Ty} {v : Value} (ht : T.ty t = some d) (h : Value.okWide P w rc base t v) : vAgg v = T.agg t := by
  obtain ⟨D, hu, _, hd⟩ := run_under hT w ht
  unfold Value.okWide at h
  rw [hu] at h
  simp only [Tab.agg, ht]
  cases d <;> cases D <;> first | exact hd.elim | (obtain ⟨cs, rfl, _⟩ := h; rfl) | (unfold Cell.okWide Cell.ok at h; rw [hu] at h; cases v <;> first | rfl | exact h.elim)
theorem Arg.agg {t : TypeId} {v : AV} (h : Arg T t v) : aggA v = T.agg t := by
  cases h <;> simp_all [aggA, Tab.agg]
theorem arg_of (hT : TabOk P T) {rc : Reach} {base n : Nat} {t : TypeId} {v : Value} {d : DataW H} {ps : List MemPlace} (hd : dataT T n t = true) (hv : Value.okWide P w rc base t v) (h : DataW.Trod enc P w 0 spare held t v d ps) (hw : ∀ k ∈ d.weights P t, k ≤ 140737488351232) :
    ∃ a, Arg T t a ∧ RepT T (cxW w) a v := by
  obtain ⟨fuel, h⟩ := h
  obtain ⟨a, D, h1, h2, h3⟩ := trod_rep hT n hd h hw
  exact ⟨a, h1, Rep1.toT ⟨D, h3, (okWide_agg hT h2 hv).trans h1.agg.symm⟩⟩
/-- How long the slices of an argument may be. -/
theorem sized_arg {ts : List TypeId} {ds : List (DataW H)} (h : (DataW.weightsEach P ts ds).all (· ≤ reachBytes) = true) {j : Nat} {t : TypeId} {d : DataW H} (ht : ts[j]? = some t) (hd : ds[j]? = some d) : ∀ k ∈ d.weights P t, k ≤ 140737488351232 := fun k hk => by
  have := List.all_eq_true.1 h _ (DataW.weights_mem_each ht hd k hk)
  exact of_decide_eq_true this
theorem goes_calls {f : FuncId} {vs : Array Value} {R : Value → World → Prop} (h : Goes P f vs w R) (he : (callFunc f vs).run P w = .ok (.enter f vs) w) : Calls P f vs w fun e w' => ∃ y, e = .returned y ∧ R y w' := by
  rcases h with ⟨_, h⟩ | ⟨y, w', h, _⟩
  · exact h
  · rw [he] at h; cases h
/-- A law's walk, as a call. -/
theorem law_calls {C : Cfg} {call : Caller} {f : FuncId} {args : List AV} {vs : Array Value} {σ' : St} (hC : CallOk P C call) (hl : call f args St.empty = some (.bool true, σ')) (hA : RepA C.T (cxW w) args vs.toList) (he : (callFunc f vs).run P w = .ok (.enter f vs) w) (hG : GlobOk C.T (cxW w) := by exact fun _ => trivial) (hf : f % 1000000 = f := by rfl) :
    Calls P f vs w fun e w' => e = .returned (.bool true) ∧ Below w.heap.size w w' :=
  by
    have h := hC.run f args vs _ _ hG (inv_of C.T w) (fun _ => rfl) hl hA
    rw [hf] at h
    exact (goes_calls h he).mono fun e w' ⟨y, he, c', hf, _, hr⟩ => by
      rw [he, rep_bool hr]; exact ⟨rfl, hf.below⟩
theorem repA0 {c : Cx} : RepA T c [] [] := ⟨rfl, fun i x y hx => by simp at hx⟩
theorem repA_cons {c : Cx} {a : AV} {v : Value} {l : List AV} {vs : List Value} (h : RepT T c a v) (g : RepA T c l vs) : RepA T c (a :: l) (v :: vs) :=
  ⟨by simp [g.1], fun i x y hx hy => by
    cases i with
    | zero => simp only [List.getElem?_cons_zero, Option.some.injEq] at hx hy; subst hx hy; exact h
    | succ i => exact g.2 i x y (by simpa using hx) (by simpa using hy)⟩
end
end Go.Proofs.Yticlihmbikcohaa.Va
