/- the machine's operations, against the interpreter's -/
import Derived.Test.YticlihmbikcohaaVaX
namespace Go.Proofs.Yticlihmbikcohaa.Va
open Go Go.RowKit
set_option linter.unusedVariables false
set_option linter.unusedSimpArgs false
section
variable {P : Program} {T : Tab} {base : Nat} {c c' : Cx} {σ : St} {w w' : World}
theorem sd_len (hT : TabOk P T) (hI : Inv T base c σ w) {t ty : TypeId} {x r : AV} {vx : Value} (h : @aLen T ⟨σ⟩ t x = some r) (hr : RepT T c x vx) :
    ∃ y, (Builtin.len_ #[t] ty #[vx]).run P w = .ok y w ∧ RepT T c r y := by
  unfold aLen at h
  split at h
  · rename_i s ht
    simp only [Option.some.injEq] at h; subst h
    obtain rfl := rep_str hr
    obtain ⟨D, hu, hrun, hd⟩ := run_under hT w ht
    obtain rfl := desc_str hd
    exact ⟨_, by simp [Builtin.len_, Sem.run_bind, hrun]; rfl, mk_int _ _⟩
  · rename_i n e v ht
    simp only [Option.some.injEq] at h; subst h
    obtain ⟨D, hu, hrun, hd⟩ := run_under hT w ht
    obtain rfl := desc_array hd
    exact ⟨_, by simp [Builtin.len_, Sem.run_bind, hrun]; rfl, mk_int _ _⟩
  · rename_i e b ht
    simp only [Option.some.injEq] at h; subst h
    obtain ⟨a, rfl, _⟩ := rep_mt hr
    obtain ⟨D, hu, hrun, hd⟩ := run_under hT w ht
    obtain rfl := desc_slice hd
    exact ⟨_, by simp [Builtin.len_, Sem.run_bind, hrun]; rfl, mk_int _ _⟩
  · rename_i e e' n xs tok ht
    simp only [Option.some.injEq] at h; subst h
    obtain ⟨D, hu, hrun, hd⟩ := run_under hT w ht
    obtain rfl := desc_slice hd
    rcases rep_list hr with ⟨rfl, a, cap, rfl, _⟩ | ⟨hne, _, cs, b, o, cap, rfl, _⟩
    · exact ⟨_, by simp [Builtin.len_, Sem.run_bind, hrun]; rfl, mk_int _ _⟩
    · exact ⟨_, by simp [Builtin.len_, Sem.run_bind, hrun]; rfl, mk_int _ _⟩
  · rename_i e e' id p off len ht
    simp only [Option.some.injEq] at h; subst h
    obtain ⟨D, hu, hrun, hd⟩ := run_under hT w ht
    obtain rfl := desc_slice hd
    obtain ⟨o, cap, rfl, _⟩ := rep_view hr
    exact ⟨_, by simp [Builtin.len_, Sem.run_bind, hrun]; rfl, mk_int _ _⟩
  · rename_i k v ht
    simp only [Option.some.injEq] at h; subst h
    obtain rfl := rep_nilm hr
    obtain ⟨D, hu, hrun, hd⟩ := run_under hT w ht
    obtain rfl := desc_map hd
    exact ⟨_, by simp [Builtin.len_, Sem.run_bind, hrun]; rfl, mk_int _ _⟩
  · rename_i k v id ht
    split at h
    · rename_i k' v' es ho
      simp only [Option.some.injEq] at h; subst h
      obtain ⟨rfl, hid⟩ := rep_map hr
      obtain ⟨D, hu, hrun, hd⟩ := run_under hT w ht
      obtain rfl := desc_map hd
      obtain ⟨_, _, _, ents, clock, h1, h2, _⟩ := hI.obj id _ ho
      refine ⟨_, ?_, mk_int _ _⟩
      have hg : (getObj (c.μ id)).run P w = .ok (.map ents clock) w := by simp [getObj, Sem.run, h1]
      simp [Builtin.len_, Sem.run_bind, hrun, hg, h2]
      rfl
    · cases h
  · cases h
theorem minmax_go (w : World) (mx : Bool) (k : IntKind) : ∀ (l : List AV) (vs : List Value) (n : Int) (r : AV), aMinMax.go mx k n l = some r → vs.length = l.length → (∀ (i : Nat) v u, l[i]? = some v → vs[i]? = some u → RepT T c v u) →
    ∃ m, r = .int k m ∧ ((vs.foldlM (if mx then Builtin.max2 else Builtin.min2) (.int k n) : Sem Value)).run P w = .ok (.int k m) w
  | [], vs, n, r, h, hl, _ => by
    obtain rfl := List.eq_nil_of_length_eq_zero (by simpa using hl)
    simp only [aMinMax.go, Option.some.injEq] at h
    subst h
    exact ⟨n, rfl, by simp⟩
  | v :: l, vs, n, r, h, hl, hv => by
    match vs, hl with
    | u :: vs, hl =>
      cases v with
      | int k' m =>
        simp only [aMinMax.go] at h
        split at h
        · rename_i hk
          subst hk
          obtain rfl := rep_int (hv 0 _ _ rfl rfl)
          obtain ⟨m', rfl, hm⟩ := minmax_go w mx k l vs _ r h (by simpa using hl) (fun i a b ha hb => hv (i + 1) a b (by simpa using ha) (by simpa using hb))
          refine ⟨m', rfl, ?_⟩
          rw [List.foldlM_cons, Sem.run_bind]
          cases mx
          · simp only [Bool.false_eq_true, if_false, Builtin.min2, Sem.run_pure, Result.andThen_ok] at hm ⊢
            exact hm
          · simp only [if_true, Builtin.max2, Sem.run_pure, Result.andThen_ok] at hm ⊢
            exact hm
        · cases h
      | _ => simp [aMinMax.go] at h
theorem sd_minmax (w : World) (mx : Bool) {tys : Array TypeId} {ty : TypeId} {args : List AV} {vs : Array Value} {r : AV} (h : aMinMax mx args = some r) (hA : RepA T c args vs.toList) :
    ∃ y, ((if mx then Builtin.max_ else Builtin.min_) tys ty vs).run P w = .ok y w ∧ RepT T c r y := by
  obtain ⟨vl⟩ := vs
  obtain ⟨hl, hv⟩ := hA
  simp only at hl hv
  match args, vl, hl with
  | [], _, _ => simp [aMinMax] at h
  | v :: l, u :: vl, hl =>
    cases v with
    | int k n =>
      simp only [aMinMax] at h
      obtain rfl := rep_int (hv 0 _ _ rfl rfl)
      obtain ⟨m, rfl, hm⟩ := minmax_go (T := T) (c := c) w mx k l vl n r h (by simpa using hl) (fun i a b ha hb => hv (i + 1) a b (by simpa using ha) (by simpa using hb))
      refine ⟨_, ?_, mk_int _ _⟩
      cases mx
      · simpa [Builtin.min_] using hm
      · simpa [Builtin.max_] using hm
    | _ => simp [aMinMax] at h
theorem caps_rep {a : Act} {ρ : Env} (hE : RepEnv T c ρ a) : ∀ {l : List Operand}, (l.all fun x => capOk (val ρ x)) = true → RepC T c (l.map (val ρ)) (l.map a.eval)
  | [], _ => .nil _
  | x :: l, h => by
    simp only [List.all_cons, Bool.and_eq_true] at h
    have h1 : Rep1 T c (val ρ x) (a.eval x) ∧ aggA (val ρ x) = false := by
      have hr := hE.val x
      have hc := h.1
      generalize val ρ x = v at hr hc
      cases v <;> first | (simp [capOk] at hc; done) | exact ⟨hr, rfl⟩
    obtain ⟨⟨d, hd, ha⟩, hv⟩ := h1
    rw [cells_one (by rw [ha, hv])] at hd
    exact .cons _ d _ _ _ _ hd hv (caps_rep hE h.2)
theorem RepC.toA : ∀ {vs : List AV} {us : List Value}, RepC T c vs us → RepA T c vs us
  | _, _, .nil _ => ⟨rfl, fun i v u hv => by simp at hv⟩
  | _, _, .cons _ d v u vs us h ha hs => by
    obtain ⟨h1, h2⟩ := hs.toA
    refine ⟨by simp [h1], fun i v' u' hv hu => ?_⟩
    cases i with
    | zero => simp only [List.getElem?_cons_zero, Option.some.injEq] at hv hu; subst hv hu; exact (h.one1 ha).toT
    | succ i => exact h2 i v' u' (by simpa using hv) (by simpa using hu)
theorem RepA.app {l m : List AV} {us vs : List Value} (h : RepA T c l us) (g : RepA T c m vs) : RepA T c (l ++ m) (us ++ vs) := by
  obtain ⟨h1, h2⟩ := h
  obtain ⟨g1, g2⟩ := g
  refine ⟨by simp [h1, g1], fun i v u hv hu => ?_⟩
  by_cases hi : i < l.length
  · rw [List.getElem?_append_left hi] at hv
    rw [List.getElem?_append_left (by omega)] at hu
    exact h2 i v u hv hu
  · rw [List.getElem?_append_right (by omega)] at hv
    rw [List.getElem?_append_right (by omega), h1] at hu
    exact g2 _ v u hv hu
theorem args_rep {a : Act} {ρ : Env} (hE : RepEnv T c ρ a) (l : List Operand) : RepA T c (l.map (val ρ)) (l.map a.eval) := by
  refine ⟨by simp, fun i v u hv hu => ?_⟩
  rw [List.getElem?_map] at hv hu
  cases hx : l[i]? with
  | none => rw [hx] at hv; cases hv
  | some x =>
    rw [hx] at hv hu
    cases hv; cases hu
    exact hE.val x
theorem wp_val {o : Oper} {a : Act} {next : Act → World → Prop} {Q : Exit → Act → World → Prop} {y : Value} (h : (execOp a.eval o).run P w = .ok (.value y) w') (hn : next (a.put o.dst y) w') : o.wp P a w next Q := by
  unfold Oper.wp; rw [h]; exact hn
theorem wp_skip' {o : Oper} {a : Act} {next : Act → World → Prop} {Q : Exit → Act → World → Prop} (h : (execOp a.eval o).run P w = .ok .skip w') (hn : next (a.put o.dst undef) w') : o.wp P a w next Q := by
  unfold Oper.wp; rw [h]; exact hn
theorem wp_goes {o : Oper} {a : Act} {next : Act → World → Prop} {Q : Exit → Act → World → Prop} {f : FuncId} {vs : Array Value} {R : Value → World → Prop} (h : (execOp a.eval o).run P w = (callFunc f vs).run P w) (hg : Goes P f vs w R) (hn : ∀ y w', R y w' → next (a.put o.dst y) w') : o.wp P a w next Q := by
  unfold Oper.wp; rw [h]
  rcases hg with ⟨h1, h2⟩ | ⟨y, w', h1, h2⟩
  · rw [h1]
    exact h2.mono fun e w' ⟨y, he, hR⟩ => by subst he; exact hn y w' hR
  · rw [h1]; exact hn y w' h2
theorem keep_some {x : Option AV} {p : AV × St} (h : keepS σ x = some p) : x = some p.1 ∧ p.2 = σ := by
  cases x with
  | none => cases h
  | some v => simp only [keepS, Option.some.injEq] at h; subst h; exact ⟨rfl, rfl⟩
theorem op_sound {C : Cfg} {call : Caller} {f : FuncId} {q : Bool} {ρ : Env} {σr σ' : St} {o : Oper} {a : Act} {v : AV} (hT : TabOk P C.T) (hC : CallOk P C call) (hE : RepEnv C.T c ρ a) (hI : Inv C.T base c σ w) (hσ : ∀ i ob, σr.obj i = some ob → σ.obj i = some ob) (hq : q = false → σr = σ)
    (h : evalOp C call f q ρ σr σ o = some (v, σ')) {next : Act → World → Prop} {Q : Exit → Act → World → Prop} (k : ∀ c' y w', Fwd base c c' w w' → Inv C.T base c' σ' w' → RepT C.T c' v y → next (a.put o.dst y) w') : o.wp P a w next Q := by
  have hI' : Inv C.T base c { σ with obj := σr.obj } w := hI.weak rfl rfl hσ (fun _ h => h)
  have keep : ∀ {x : Option AV}, keepS σ x = some (v, σ') → (∀ r, x = some r → ∃ y, (execOp a.eval o).run P w = .ok (.value y) w ∧ RepT C.T c r y) → o.wp P a w next Q := fun {x} hk hx => by
    obtain ⟨h1, h2⟩ := keep_some hk
    simp only at h1 h2
    subst h2
    obtain ⟨y, hy, hr⟩ := hx _ h1
    exact wp_val hy (k c y w (.refl _ _ _) hI hr)
  have vrun : ∀ {s : Sem Value} {y : Value} {w' : World}, s.run P w = .ok y w' → (do pure (.value (← s)) : Sem Next).run P w = .ok (.value y) w' := fun hs => by simp [Sem.run_bind, hs]
  have urun : ∀ {s : Sem Unit} {w' : World}, s.run P w = .ok () w' → (do s; pure .skip : Sem Next).run P w = .ok .skip w' := fun hs => by simp [Sem.run_bind, hs]
  have amap : ∀ {α β : Type} (l : Array α) (g : α → β), l.map g = (l.toList.map g).toArray := fun l g => by apply Array.ext'; simp
  unfold evalOp at h
  split at h
  · rename_i x ho
    simp only [Option.some.injEq, Prod.mk.injEq] at h
    obtain ⟨rfl, rfl⟩ := h
    exact wp_val (by simp [execOp, ho]) (k c _ w (.refl _ _ _) hI (hE.val x))
  · rename_i x ho
    simp only [Option.some.injEq, Prod.mk.injEq] at h
    obtain ⟨rfl, rfl⟩ := h
    exact wp_val (by simp [execOp, ho]) (k c _ w (.refl _ _ _) hI (hE.val x))
  · rename_i x y z ho
    split at h
    · rename_i t ht
      simp only [Option.some.injEq, Prod.mk.injEq] at h
      obtain ⟨rfl, rfl⟩ := h
      have hx := hE.val x
      rw [ht] at hx
      have hx := rep_bool hx
      refine wp_val (y := if t then a.eval y else a.eval z) (by simp [execOp, ho, hx, asBool]) (k c _ w (.refl _ _ _) hI ?_)
      cases t
      · exact hE.val z
      · exact hE.val y
    · cases h
  · rename_i e ho
    split at h
    · rename_i hf
      simp only [Option.some.injEq, Prod.mk.injEq] at h
      obtain ⟨rfl, rfl⟩ := h
      obtain ⟨c', y, w', h1, h2, h3, h4⟩ := sd_alloc hT hI hf
      exact wp_val (by simp only [execOp, ho]; exact vrun h1) (k c' y w' h2 h3 h4)
    · cases h
  · rename_i e x ho
    split at h
    · rename_i hf
      simp only [Option.some.injEq, Prod.mk.injEq] at h
      obtain ⟨rfl, rfl⟩ := h
      obtain ⟨c', y, w', h1, h2, h3, h4⟩ := sd_box (P := P) hI (hE.val x) hf
      exact wp_val (by simp only [execOp, ho]; exact vrun h1) (k c' y w' h2 h3 h4)
    · cases h
  · rename_i t parts ho
    refine keep h fun r hr => ?_
    obtain ⟨y, hy, hr⟩ := sd_build (c := c) (w := w) hT (parts' := parts.toList.map fun (i, x) => (i, a.eval x)) hr (by simp) (fun i p q hp hq => by
      rw [List.getElem?_map] at hp hq
      cases hx : parts.toList[i]? with
      | none => rw [hx] at hp; cases hp
      | some z => rw [hx] at hp hq; cases hp; cases hq; exact ⟨rfl, hE.val z.2⟩)
    exact ⟨y, by simp only [execOp, ho]; refine vrun ?_; rw [amap parts]; exact hy, hr⟩
  · rename_i t n parts ho
    split at h
    · rename_i e ht
      split at h
      · rename_i hn
        obtain ⟨xs, hf, h⟩ := Option.bind_eq_some_iff.1 h
        obtain ⟨y, w', h1, h2, c', h3⟩ := sd_buildSlice (P := P) hT hI ht hn.1 hn.2 (parts' := parts.toList.map fun (i, x) => (i, a.eval x)) hf (by simp) (fun i p q hp hq => by
          rw [List.getElem?_map] at hp hq
          cases hx : parts.toList[i]? with
          | none => rw [hx] at hp; cases hp
          | some z => rw [hx] at hp hq; cases hp; cases hq; exact ⟨rfl, hE.val z.2⟩)
        have hrun : (execOp a.eval o).run P w = .ok (.value y) w' := by simp only [execOp, ho]; refine vrun ?_; rw [amap parts]; exact h1
        split at h
        · split at h
          · cases h
          · simp only [Option.some.injEq, Prod.mk.injEq] at h
            obtain ⟨rfl, rfl⟩ := h
            exact wp_val hrun (k c' y w' h3.1 h3.2.1 h3.2.2)
        · split at h
          · rename_i hp
            simp only [Option.some.injEq, Prod.mk.injEq] at h
            obtain ⟨rfl, rfl⟩ := h
            obtain ⟨c2, g1, g2, g3⟩ := h2 hp
            exact wp_val hrun (k c2 y w' g1 g2 g3)
          · cases h
      · cases h
    · cases h
  · rename_i t x ho
    refine keep h fun r hr => ?_
    obtain ⟨y, hy, hr⟩ := sd_load hT hI' (σ := { σ with obj := σr.obj }) hr (hE.val x)
    exact ⟨y, by simp only [execOp, ho]; exact vrun hy, hr.toT⟩
  · rename_i t x y ho
    split at h
    · cases h
    · rename_i hqf
      cases hs : @aStore C.T ⟨σ⟩ t (val ρ x) (val ρ y) with
      | none => rw [hs] at h; cases h
      | some σ2 =>
        rw [hs] at h
        simp only [Option.map_some, Option.some.injEq, Prod.mk.injEq] at h
        obtain ⟨rfl, rfl⟩ := h
        obtain ⟨w', h1, h2, h3⟩ := sd_store hT hI hs (hE.val x) (hE.val y)
        exact wp_skip' (by simp only [execOp, ho]; exact urun h1) (k c _ w' h2 h3 ⟨[], rfl, rfl, fun i v w hv => by simp at hv⟩)
  · rename_i x ho
    refine keep h fun r hr => ?_
    obtain ⟨h1, h2⟩ := sd_nilCheck (P := P) (w := w) ho rfl hr (hE.val x)
    exact ⟨_, h1, h2⟩
  · rename_i op t x y u ho
    refine keep h fun r hr => ?_
    obtain ⟨y, hy, hr⟩ := sd_bin (P := P) hT (w := w) (ox := x) (oy := y) hr (hE.val x) (hE.val y)
    exact ⟨y, by simp only [execOp, ho]; exact vrun hy, hr⟩
  · rename_i op t x ho
    refine keep h fun r hr => ?_
    obtain ⟨y, hy, hr⟩ := sd_un (P := P) w hr (hE.val x)
    exact ⟨y, by simp only [execOp, ho]; exact vrun hy, hr⟩
  · rename_i s d x ho
    refine keep h fun r hr => ?_
    obtain ⟨y, hy, hr⟩ := sd_convert hT hI' (σ := { σ with obj := σr.obj }) hr (hE.val x)
    exact ⟨y, by simp only [execOp, ho]; exact vrun hy, hr⟩
  · rename_i g first caps ho
    split at h
    · rename_i hc
      simp only [Option.some.injEq, Prod.mk.injEq] at h
      obtain ⟨rfl, rfl⟩ := h
      simp only [Bool.and_eq_true] at hc
      have hf : first = #[] := by simpa using hc.1
      refine wp_val (y := .func (.func g) #[] (caps.map a.eval)) (by simp [execOp, ho, hf, Instr.makeFunc]) (k c _ w (.refl _ _ _) hI ?_)
      have := caps_rep hE hc.2
      refine ⟨.func, ?_, rfl⟩
      have h2 := RepV.func c g _ _ this
      rw [amap caps]; exact h2
    · cases h
  · rename_i t l cp ho
    split at h
    · rename_i e k1 n k2 m ht hl hcp
      split at h
      · rename_i hn
        obtain ⟨n0, rfl, n1, n2⟩ := hn
        have el := hE.val l
        have ec := hE.val cp
        rw [hl] at el
        rw [hcp] at ec
        obtain ⟨y, w', h1, h2, c', h3⟩ := sd_makeSlice (P := P) hT hI ht (kl := k1) (kc := k2) n0 n1 n2
        have hrun : (execOp a.eval o).run P w = .ok (.value y) w' := by simp only [execOp, ho]; refine vrun ?_; rw [rep_int el, rep_int ec]; exact h1
        split at h
        · split at h
          · cases h
          · simp only [Option.some.injEq, Prod.mk.injEq] at h
            obtain ⟨rfl, rfl⟩ := h
            exact wp_val hrun (k c' y w' h3.1 h3.2.1 h3.2.2)
        · split at h
          · rename_i hp
            simp only [Option.some.injEq, Prod.mk.injEq] at h
            obtain ⟨rfl, rfl⟩ := h
            obtain ⟨c2, g1, g2, g3⟩ := h2 hp
            exact wp_val hrun (k c2 y w' g1 g2 g3)
          · cases h
      · cases h
    · cases h
  · rename_i t x lo hi mx ho
    refine keep h fun r hr => ?_
    have ro : ∀ y : Option Operand, RepO C.T c (y.map (val ρ)) (y.map a.eval) := fun y => by cases y <;> first | trivial | exact hE.val _
    obtain ⟨y, hy, hr⟩ := sd_slice (P := P) hT (w := w) hr (hE.val x) (ro lo) (ro hi) (ro mx)
    exact ⟨y, by simp only [execOp, ho]; exact vrun hy, hr⟩
  · rename_i t x i ho
    refine keep h fun r hr => ?_
    obtain ⟨y, hy, hr⟩ := sd_fieldAddr (P := P) hT (w := w) hr (hE.val x)
    exact ⟨y, by simp only [execOp, ho]; exact vrun hy, hr⟩
  · rename_i t x i ho
    refine keep h fun r hr => ?_
    obtain ⟨y, hy, hr⟩ := sd_field (P := P) hT (w := w) hr (hE.val x)
    exact ⟨y, by simp only [execOp, ho]; exact vrun hy, hr⟩
  · rename_i t x i ho
    refine keep h fun r hr => ?_
    obtain ⟨y, hy, hr⟩ := sd_indexAddr (P := P) hT (w := w) hr (hE.val x) (hE.val i)
    exact ⟨y, by simp only [execOp, ho]; exact vrun hy, hr⟩
  · rename_i t x i ho
    refine keep h fun r hr => ?_
    obtain ⟨y, hy, hr⟩ := sd_index (P := P) hT (w := w) hr (hE.val x) (hE.val i)
    exact ⟨y, by simp only [execOp, ho]; exact vrun hy, hr⟩
  · rename_i x i ho
    split at h
    · rename_i vs hvs
      refine keep h fun r hr => ?_
      have hx := hE.val x
      rw [hvs] at hx
      obtain ⟨ws, h1, h2, h3⟩ := rep_tup hx
      obtain ⟨y, hy⟩ : ∃ y, ws[i]? = some y := ⟨_, List.getElem?_eq_getElem (by rw [h2]; exact (List.getElem?_eq_some_iff.1 hr).1)⟩
      exact ⟨y, by simp only [execOp, ho]; refine vrun ?_; simp [h1, Instr.extract, hy], (h3 i r y hr hy).toT⟩
    · cases h
  · rename_i t ho
    split at h
    · rename_i kt vt ht
      simp only [Option.some.injEq, Prod.mk.injEq] at h
      obtain ⟨rfl, rfl⟩ := h
      obtain ⟨c', y, w', h1, h2, h3, h4⟩ := sd_makeMap hT hI ht
      exact wp_val (by simp only [execOp, ho, Option.map_none]; exact vrun h1) (k c' y w' h2 h3 h4)
    · cases h
  · rename_i t x i ok ho
    refine keep h fun r hr => ?_
    obtain ⟨y, hy, hr⟩ := sd_lookup hT hI' (σ := { σ with obj := σr.obj }) hr (hE.val x) (hE.val i)
    exact ⟨y, by simp only [execOp, ho]; exact vrun hy, hr⟩
  · rename_i t x i v' ho
    split at h
    · cases h
    · rename_i hqf
      obtain ⟨σ2, hs, h⟩ := Option.map_eq_some_iff.1 h
      simp only [Prod.mk.injEq] at h
      obtain ⟨rfl, rfl⟩ := h
      obtain ⟨w', h1, h2, h3⟩ := sd_mapPut hT hI hs (hE.val x) (hE.val i) (hE.val v')
      exact wp_skip' (by simp only [execOp, ho]; exact urun h1) (k c _ w' h2 h3 ⟨[], rfl, rfl, fun i v w hv => by simp at hv⟩)
  · rename_i t x i v' ho
    split at h
    · cases h
    · rename_i hqf
      obtain ⟨σ2, hs, h⟩ := Option.map_eq_some_iff.1 h
      simp only [Prod.mk.injEq] at h
      obtain ⟨rfl, rfl⟩ := h
      obtain ⟨w', h1, h2, h3⟩ := sd_mapPut hT hI hs (hE.val x) (hE.val i) (hE.val v')
      exact wp_skip' (by simp only [execOp, ho]; exact urun h1) (k c _ w' h2 h3 ⟨[], rfl, rfl, fun i v w hv => by simp at hv⟩)
  · rename_i cl ho
    have argsR := args_rep hE cl.args.toList
    split at h
    · rename_i b hb
      have hrun : ∀ (s : Sem Next), builtin b cl.argTypes o.type (cl.args.map fun | .const _ => true | _ => false) (cl.args.map a.eval) = s → (execOp a.eval o).run P w = s.run P w := fun s hs => by
        simp only [execOp, ho, resolve, hb, invoke]
        rw [← hs]; rfl
      unfold evalBuiltin at h
      split at h
      · rename_i t x htys hargs
        refine keep h fun r hr => ?_
        have hx : ∃ x', cl.args.toList = [x'] ∧ x = val ρ x' := by
          match hl : cl.args.toList with
          | [x'] => rw [hl] at hargs; simp at hargs; exact ⟨x', rfl, hargs.symm⟩
          | [] => rw [hl] at hargs; simp at hargs
          | _ :: _ :: _ => rw [hl] at hargs; simp at hargs
        obtain ⟨x', hx', rfl⟩ := hx
        obtain ⟨y, hy, hr⟩ := sd_len hT hI' (σ := { σ with obj := σr.obj }) (ty := o.type) hr (hE.val x')
        refine ⟨y, ?_, hr⟩
        rw [hrun _ rfl]
        have e1 : cl.argTypes = #[t] := by apply Array.ext'; rw [htys]
        have e2 : cl.args.map a.eval = #[a.eval x'] := by apply Array.ext'; simp [hx']
        simp only [builtin, e1, e2]
        exact vrun hy
      · rename_i t tx s x htys hargs
        have hx : ∃ s' x', cl.args.toList = [s', x'] ∧ s = val ρ s' ∧ x = val ρ x' := by
          match hl : cl.args.toList with
          | [s', x'] => rw [hl] at hargs; simp at hargs; exact ⟨s', x', rfl, hargs.1.symm, hargs.2.symm⟩
          | [] => rw [hl] at hargs; simp at hargs
          | [_] => rw [hl] at hargs; simp at hargs
          | _ :: _ :: _ :: _ => rw [hl] at hargs; simp at hargs
        obtain ⟨s', x', hx', rfl, rfl⟩ := hx
        have e1 : cl.argTypes = #[t, tx] := by apply Array.ext'; rw [htys]
        have e2 : cl.args.map a.eval = #[a.eval s', a.eval x'] := by apply Array.ext'; simp [hx']
        split at h
        · cases h
        · split at h
          · rename_i htx
            split at h
            · cases h
            · rename_i hqf
              have hq' := hq (by simpa using hqf)
              subst hq'
              obtain ⟨c', y, w', h1, h2, h3, h4⟩ := sd_append (P := P) hT hI (ty := o.type) h htx (hE.val s') (hE.val x')
              refine wp_val (y := y) (w' := w') ?_ (k c' y w' h2 h3 h4)
              rw [hrun _ rfl]
              simp only [builtin, e1, e2]
              exact vrun h1
          · cases h
      · rename_i t tk x y htys hargs
        split at h
        · cases h
        · have hx : ∃ x' y', cl.args.toList = [x', y'] ∧ x = val ρ x' ∧ y = val ρ y' := by
            match hl : cl.args.toList with
            | [s', x'] => rw [hl] at hargs; simp at hargs; exact ⟨s', x', rfl, hargs.1.symm, hargs.2.symm⟩
            | [] => rw [hl] at hargs; simp at hargs
            | [_] => rw [hl] at hargs; simp at hargs
            | _ :: _ :: _ :: _ => rw [hl] at hargs; simp at hargs
          obtain ⟨x', y', hx', rfl, rfl⟩ := hx
          obtain ⟨σ2, hs, h⟩ := Option.map_eq_some_iff.1 h
          simp only [Prod.mk.injEq] at h
          obtain ⟨rfl, rfl⟩ := h
          have e1 : cl.argTypes = #[t, tk] := by apply Array.ext'; rw [htys]
          have e2 : cl.args.map a.eval = #[a.eval x', a.eval y'] := by apply Array.ext'; simp [hx']
          obtain ⟨w', h1, h2, h3⟩ := sd_mapDel hT hI (tk := tk) (ty := o.type) hs (hE.val x') (hE.val y')
          refine wp_val (y := .tuple #[]) (w' := w') ?_ (k c _ w' h2 h3 ⟨[], rfl, rfl, fun i v w hv => by simp at hv⟩)
          rw [hrun _ rfl]
          simp only [builtin, e1, e2]
          exact vrun h1
      · rename_i t x htys hargs
        split at h
        · cases h
        · have hx : ∃ x', cl.args.toList = [x'] ∧ x = val ρ x' := by
            match hl : cl.args.toList with
            | [x'] => rw [hl] at hargs; simp at hargs; exact ⟨x', rfl, hargs.symm⟩
            | [] => rw [hl] at hargs; simp at hargs
            | _ :: _ :: _ => rw [hl] at hargs; simp at hargs
          obtain ⟨x', hx', rfl⟩ := hx
          obtain ⟨σ2, hs, h⟩ := Option.map_eq_some_iff.1 h
          simp only [Prod.mk.injEq] at h
          obtain ⟨rfl, rfl⟩ := h
          have e1 : cl.argTypes = #[t] := by apply Array.ext'; rw [htys]
          have e2 : cl.args.map a.eval = #[a.eval x'] := by apply Array.ext'; simp [hx']
          obtain ⟨w', h1, h2, h3⟩ : ∃ w', (Builtin.clear_ #[t] o.type #[a.eval x']).run P w = .ok (.tuple #[]) w' ∧ Fwd base c c w w' ∧ Inv C.T base c σ2 w' := by
            split at hs
            · rename_i hv
              exact sd_clearRow hT hI hs (hv ▸ hE.val x')
            · exact sd_mapClear hT hI (ty := o.type) hs (hE.val x')
          refine wp_val (y := .tuple #[]) (w' := w') ?_ (k c _ w' h2 h3 ⟨[], rfl, rfl, fun i v w hv => by simp at hv⟩)
          rw [hrun _ rfl]
          simp only [builtin, e1, e2]
          exact vrun h1
      · refine keep h fun r hr => ?_
        obtain ⟨y, hy, hr⟩ := sd_minmax (P := P) w false (tys := cl.argTypes) (ty := o.type) (vs := cl.args.map a.eval) hr (by simpa using argsR)
        refine ⟨y, ?_, hr⟩
        rw [hrun _ rfl]
        simp only [builtin]
        exact vrun (by simpa using hy)
      · refine keep h fun r hr => ?_
        obtain ⟨y, hy, hr⟩ := sd_minmax (P := P) w true (tys := cl.argTypes) (ty := o.type) (vs := cl.args.map a.eval) hr (by simpa using argsR)
        refine ⟨y, ?_, hr⟩
        rw [hrun _ rfl]
        simp only [builtin]
        exact vrun (by simpa using hy)
      · cases h
    · rename_i g hg
      split at h
      · rename_i g' caps hv
        have hgv := hE.val g
        rw [hv] at hgv
        obtain ⟨ws, hws, hcap⟩ := rep_func hgv
        have hA := argsR.app hcap.toA
        have hrun : (execOp a.eval o).run P w = (callFunc g' (cl.args.map a.eval ++ ws.toArray)).run P w := by
          simp [execOp, ho, resolve, hg, hws, Deferred.ofValue, invoke]
        split at h
        rotate_left
        · cases h
        rename_i hlt
        have hgm : g' % 1000000 = g' := Nat.mod_eq_of_lt hlt
        split at h
        · split at h
          · cases h
          · split at h
            · cases h
            · rename_i hgV
              have hgm2 : (g' + 1000000) % 1000000 = g' := by rw [Nat.add_mod_right, hgm]
              have hcall := hC.run (g' + 1000000) _ (cl.args.map a.eval ++ ws.toArray) v σ' hE.2 hI (fun hh => absurd hh hgV) h (by simpa using hA)
              rw [hgm2] at hcall
              exact wp_goes hrun hcall (fun y w' ⟨c', h1, h2, h3⟩ => k c' y w' h1 h2 h3)
        split at h
        · rename_i hgV
          split at h
          · have hcall := callCalm_sound hT hC hE.2 hI hσ (vs := cl.args.map a.eval ++ ws.toArray) h (by simpa using hA)
            rw [hgm] at hcall
            exact wp_goes hrun hcall (fun y w' ⟨c', h1, h2, h3⟩ => k c' y w' h1 h2 h3)
          · have hcall := callVal_sound hT hC hE.2 hI hσ (vs := cl.args.map a.eval ++ ws.toArray) h (by simpa using hA)
            rw [hgm] at hcall
            exact wp_goes hrun hcall (fun y w' ⟨c', h1, h2, h3⟩ => k c' y w' h1 h2 h3)
        · rename_i hgV
          split at h
          · cases h
          · unfold callNv at h
            split at h
            · obtain ⟨us, hus, h⟩ := Option.bind_eq_some_iff.1 h
              obtain ⟨c1, f1, i1, a1⟩ := freezeN_sound hT hI hus hA
              have hcall := hC.run g' _ (cl.args.map a.eval ++ ws.toArray) v σ' (hE.2.ext f1.ext) i1 (fun hh => absurd hh hgV) h (by simpa using a1)
              rw [hgm] at hcall
              exact wp_goes hrun hcall (fun y w' ⟨c', h1, h2, h3⟩ => k c' y w' (f1.trans h1) h2 h3)
            · have hcall := hC.run g' _ (cl.args.map a.eval ++ ws.toArray) v σ' hE.2 hI (fun hh => absurd hh hgV) h (by simpa using hA)
              rw [hgm] at hcall
              exact wp_goes hrun hcall (fun y w' ⟨c', h1, h2, h3⟩ => k c' y w' h1 h2 h3)
      · cases h
    · cases h
  · cases h
end
end Go.Proofs.Yticlihmbikcohaa.Va
