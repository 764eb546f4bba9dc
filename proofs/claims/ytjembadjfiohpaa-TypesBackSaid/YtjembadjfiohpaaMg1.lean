/- chapter 5: TypesApart -/
import Derived.Test.YtjembadjfiohpaaMg0

namespace Go.Proofs.Ytjembadjfiohpaa.Va
open Go
set_option linter.unusedVariables false
set_option linter.unusedSimpArgs false
set_option maxRecDepth 100000
theorem wsl_len {R : Type} {P : Option R → Prop} {T : Tab} {m : Mem} {t e : TypeId} {xs : List AV} {v : AV} {k : AV → Option R} (hs : Sl e xs v) (ht : T.ty t = some (.slice e)) (h : Wp P (k (.int .i64 xs.length))) : Wp P (@bnd _ R (@aLen T m t v) ⟨k⟩) := by
  rcases hs with ⟨rfl, rfl⟩ | ⟨b, kk, rfl⟩ <;> simpa [aLen, ht, bnd] using h
theorem wsl_idx {R : Type} {P : Option R → Prop} {T : Tab} {t e : TypeId} {xs : List AV} {v x : AV} {k : AV → Option R} {kd : IntKind} {i : Int} (hs : Sl e xs v) (ht : T.ty t = some (.slice e)) (h0 : 0 ≤ i) (hx : xs[i.toNat]? = some x) (h : Wp P (k (.fptr e x))) : Wp P (@bnd _ R (aIndexAddr T t v (.int kd i)) ⟨k⟩) := by
  have hlt : i < xs.length := by have := (List.getElem?_eq_some_iff.1 hx).1; omega
  rcases hs with ⟨rfl, rfl⟩ | ⟨b, kk, rfl⟩
  · simp at hx
  · simp only [aIndexAddr, ht, h0, hlt, and_self, if_true, hx]; exact h
theorem size_ok {l : List Typ} {tv : Bool} {f : Fld} (h : fieldS l tv f = 0) : 8 ≤ sizeS f ∧ sizeS f ≤ 128 ∧ sizeS f % 8 = 0 := by
  obtain ⟨k, n, ty, li, ke⟩ := f
  unfold fieldS at h
  simp only at h
  by_cases k1 : k = 1
  · subst k1
    simp only [if_true] at h
    split at h
    · split at h
      · cases h
      · rename_i hz
        unfold sizeS at hz ⊢
        simp only [if_true] at hz ⊢
        split at hz
        · exact absurd rfl hz
        · rename_i hn
          rw [if_neg hn, IntKind.wrap_i64]
          omega
    · cases h
  · unfold sizeS
    by_cases k2 : k = 2 ∨ k = 5 ∨ k = 6 ∨ k = 7
    · simp only [k1, if_false, k2, if_true]; omega
    · by_cases k3 : k = 3
      · simp only [k1, if_false, k2, k3, if_true]; omega
      · by_cases k4 : k = 4
        · simp only [k1, if_false, k2, k3, k4, if_true]; omega
        · exfalso
          simp only [not_or] at k2
          simp [k1, k2, k3, k4] at h
/-- the places: each behind the one ahead -/
def Steps : List Int → Int → Int → Prop
  | [], a, b => a = b
  | p :: ps, a, b => p = a ∧ a % 8 = 0 ∧ ∃ c, a < c ∧ Steps ps c b
theorem lay_ok {l : List Typ} {tv : Bool} (fs : List Fld) : ∀ (a : Int) (lk gp : Nat) (xs : List Int), fieldsS l tv fs a lk gp = 0 → a % 8 = 0 → 8 ≤ a → a ≤ 1000000 - 128 * (fs.length : Int) →
    ∃ ys b, layS fs a xs = some (xs ++ ys, b) ∧ ys.length = fs.length ∧ Steps ys a b ∧ b ≤ 256 ∧ 8 ≤ b := by
  induction fs with
  | nil =>
    intro a lk gp xs h _ ha _
    refine ⟨[], a, by simp [layS], rfl, rfl, ?_, ha⟩
    simp only [fieldsS] at h
    split at h
    · cases h
    · split at h
      · cases h
      · omega
  | cons f fs ih =>
    intro a lk gp xs h h8 ha hb
    simp only [fieldsS] at h
    split at h
    · rename_i hne; exact absurd h hne
    · rename_i hf0
      have hf0 : fieldS l tv f = 0 := by simpa using hf0
      obtain ⟨s1, s2, s3⟩ := size_ok hf0
      simp only [List.length_cons] at hb
      push_cast at hb
      have hw : IntKind.i64.wrap (a + sizeS f) = a + sizeS f := by
        rw [IntKind.wrap_i64]; omega
      rw [hw] at h
      obtain ⟨ys, b, e1, e2, e3, e4, e5⟩ := ih _ _ _ (xs ++ [a]) h (by omega) (by omega) (by omega)
      refine ⟨a :: ys, b, ?_, by simp [e2], ⟨rfl, h8, _, by omega, e3⟩, e4, e5⟩
      rw [layS, if_neg (by omega), hw, e1]
      simp
theorem steps_at : ∀ {ps : List Int} {a b : Int} {k : Nat}, Steps ps a b → (hk : k < ps.length) → ps[k] % 8 = 0 ∧ (k = 0 → ps[k] = a) ∧ (∀ h : k + 1 < ps.length, ps[k] < ps[k + 1]) ∧ (k + 1 = ps.length → ps[k] < b)
  | p :: ps, a, b, 0, h, hk => by
    obtain ⟨rfl, h8, c, hc, hs⟩ := h
    refine ⟨h8, fun _ => rfl, fun h => ?_, fun h => ?_⟩
    · have := (steps_at (k := 0) hs (by simpa using h)).2.1 rfl
      simp only [List.getElem_cons_zero, List.getElem_cons_succ]
      omega
    · have : ps = [] := by simpa using h
      subst this
      simp only [Steps] at hs
      simp only [List.getElem_cons_zero]; omega
  | p :: ps, a, b, k + 1, h, hk => by
    obtain ⟨rfl, h8, c, hc, hs⟩ := h
    obtain ⟨g1, g2, g3, g4⟩ := steps_at (k := k) hs (by simpa using hk)
    exact ⟨g1, fun h => by omega, fun h => g3 (by simpa using h), fun h => g4 (by simpa using h)⟩
theorem Layout_t (d : Nat) (l : List Typ) (t : Typ) (hc : fieldsS l t.value t.fields 8 0 0 = 0) (hn : t.fields.length ≤ 12) :
    ∃ ps n, evalF Try.prog CC (d + 5) 14 [encTy t] St.empty = some (.tup [growR 3 (intsA ps), .int .i64 n, .int .i64 0], valSt (growR 3 (intsA ps))) ∧ ps.length = t.fields.length ∧ Steps ps 8 n ∧ n ≤ 256 ∧ 8 ≤ n := by
  obtain ⟨ps, n, e1, e2, e3, e4, e5⟩ := lay_ok _ _ _ _ [] hc (by decide) (by decide) (by omega)
  refine ⟨ps, n, ?_, e2, e3, e4, e5⟩
  rw [encTy_T, Layout_c]
  simp only [layR, if_neg (show ¬ 12 < t.fields.length by omega), e1, List.nil_append, if_neg (show ¬ n > 256 by omega)]
  by_cases hp : ps = []
  · subst hp; simp [growR, intsA, valSt, valSt1]
  · have : intsA ps ≠ [] := by simpa [intsA] using hp
    simp [growR, hp, this, valSt, valSt1]
theorem checkAll_ok {l : List Typ} (h : (checkAll l).2 = 0) : l.length ≤ 32 ∧ ∀ i, i < l.length → checkS l i = 0 := by
  unfold checkAll at h
  split at h
  · cases h
  · rename_i hl
    refine ⟨by omega, ?_⟩
    cases hf : firstS (checkS l) l.length 0 with
    | none => exact fun i hi => firstS_none hf i (Nat.zero_le _) (by omega)
    | some p =>
      obtain ⟨i, e⟩ := p
      rw [hf] at h
      simp only at h
      exfalso
      have : ∀ {m j : Nat}, firstS (checkS l) m j = some (i, e) → e ≠ 0 := by
        intro m
        induction m with
        | zero => intro j hj; cases hj
        | succ m ih =>
          intro j hj
          simp only [firstS] at hj
          split at hj
          · rename_i hne; cases hj; exact hne
          · exact ih hj
      exact this hf h
theorem law5 (d : Nat) (bl : Bool) (l : List Typ) (hl : l.length ≤ 9223372036854775807) : evalF Try.prog CC (d + 60) 5 [encTs bl l] St.empty = some (.bool true, St.empty) := by
  have hs := fun d => shown_c d
  have h1 := fun d => Check_c d bl l hl
  simp only [encTs, resC] at h1
  refine wp_eq ?_
  rw [run_5 _ _ _ (by simp)]; unfold Try.f5; simp only [Option.getD_some]
  simp only [encTs]
  simp only [go_sem, ↓reduceIte, Nat.reduceEqDiff, Nat.reduceAdd, reduceCtorEq, CCT, CCv, CCr, CCk, Nat.reduceBNe, Nat.reduceLeDiff, Nat.reduceLT, beqI, bneI, List.length_map, decide_true, decide_false, Int.reduceEq, Int.reduceLT, Int.reduceLE, Int.reduceGE, Int.reduceGT, not_true_eq_false, not_false_eq_true, Bool.and_true, Bool.true_and, Bool.and_false, Bool.false_and, and_true, true_and, and_self, Bool.not_not, *]
  refine W.br_ndec (fun he => ?_) (fun he => ?_)
  · simp only [go_sem, ↓reduceIte, Nat.reduceEqDiff, Nat.reduceAdd, reduceCtorEq, CCT, CCv, CCr, CCk, Nat.reduceBNe, Nat.reduceLeDiff, Nat.reduceLT, beqI, bneI, List.length_map, decide_true, decide_false, Int.reduceEq, Int.reduceLT, Int.reduceLE, Int.reduceGE, Int.reduceGT, not_true_eq_false, not_false_eq_true, Bool.and_true, Bool.true_and, Bool.and_false, Bool.false_and, and_true, true_and, and_self, Bool.not_not, *]
    rfl
  obtain ⟨hlen, hok⟩ := checkAll_ok he
  simp only [go_sem, ↓reduceIte, Nat.reduceEqDiff, Nat.reduceAdd, reduceCtorEq, CCT, CCv, CCr, CCk, Nat.reduceBNe, Nat.reduceLeDiff, Nat.reduceLT, beqI, bneI, List.length_map, decide_true, decide_false, Int.reduceEq, Int.reduceLT, Int.reduceLE, Int.reduceGE, Int.reduceGT, not_true_eq_false, not_false_eq_true, Bool.and_true, Bool.true_and, Bool.and_false, Bool.false_and, and_true, true_and, and_self, Bool.not_not, he]
  refine W.iter_rule (fun i ρ s => ρ 0 = .list 32 bl (l.map encTy) none ∧ ρ 3 = .bool true ∧ ρ 6 = .int .i64 i) l.length ?_ ?_ _ 0 _ _ (Nat.zero_le _) ?_ ?_
  · rintro i ρ s hi ⟨h0, h3, h6⟩ K hK hx hr
    have hlt : (i : Int) < (l.length : Int) := by omega
    have hwrap : IntKind.i64.wrap ((i : Int) + 1) = ((i + 1 : Nat) : Int) := by rw [IntKind.wrap_i64]; omega
    obtain ⟨c1, c2, _, _⟩ := checkS_ok hi (hok i hi)
    obtain ⟨ps, n, hc, p1, p2, p3, p4⟩ := Layout_t (d + 54) l _ c2 c1
    have hil : (intsA ps).length = ps.length := by simp [intsA]
    simp only [go_sem, ↓reduceIte, Nat.reduceEqDiff, Nat.reduceAdd, reduceCtorEq, CCT, CCv, CCr, CCk, Nat.reduceBNe, Nat.reduceLeDiff, Nat.reduceLT, beqI, bneI, List.length_map, decide_true, decide_false, Int.reduceEq, Int.reduceLT, Int.reduceLE, Int.reduceGE, Int.reduceGT, not_true_eq_false, not_false_eq_true, Bool.and_true, Bool.true_and, Bool.and_false, Bool.false_and, and_true, true_and, and_self, Bool.not_not, h0, h3, h6, hlt]
    refine W.idx_at (by omega) (by omega) ?_
    generalize ht : at0 l (i : Int) = t at hc p1 c1 ⊢
    obtain ⟨name, tv, tr, tb, fs⟩ := t
    simp only [encTy] at hc p1 c1
    simp only [go_sem, ↓reduceIte, Nat.reduceEqDiff, Nat.reduceAdd, reduceCtorEq, CCT, CCv, CCr, CCk, Nat.reduceBNe, Nat.reduceLeDiff, Nat.reduceLT, beqI, bneI, List.length_map, decide_true, decide_false, Int.reduceEq, Int.reduceLT, Int.reduceLE, Int.reduceGE, Int.reduceGT, not_true_eq_false, not_false_eq_true, Bool.and_true, Bool.true_and, Bool.and_false, Bool.false_and, and_true, true_and, and_self, Bool.not_not, encTy, h0, h3, h6]
    refine W.call_gw_tup hc rfl rfl ?_
    intro v σ' kk hg hσ
    have hsl := hg.sl
    simp only [go_sem, ↓reduceIte, Nat.reduceEqDiff, Nat.reduceAdd, reduceCtorEq, CCT, CCv, CCr, CCk, Nat.reduceBNe, Nat.reduceLeDiff, Nat.reduceLT, beqI, bneI, List.length_map, decide_true, decide_false, Int.reduceEq, Int.reduceLT, Int.reduceLE, Int.reduceGE, Int.reduceGT, not_true_eq_false, not_false_eq_true, Bool.and_true, Bool.true_and, Bool.and_false, Bool.false_and, and_true, true_and, and_self, Bool.not_not, h0, h3, h6]
    refine wsl_len hsl ty_33 ?_
    simp only [go_sem, ↓reduceIte, Nat.reduceEqDiff, Nat.reduceAdd, reduceCtorEq, CCT, CCv, CCr, CCk, Nat.reduceBNe, Nat.reduceLeDiff, Nat.reduceLT, beqI, bneI, List.length_map, decide_true, decide_false, Int.reduceEq, Int.reduceLT, Int.reduceLE, Int.reduceGE, Int.reduceGT, not_true_eq_false, not_false_eq_true, Bool.and_true, Bool.true_and, Bool.and_false, Bool.false_and, and_true, true_and, and_self, Bool.not_not, h0, h3, h6, hil]
    refine W.idx_at (by omega) (by omega) ?_
    rw [ht]
    simp only [go_sem, ↓reduceIte, Nat.reduceEqDiff, Nat.reduceAdd, reduceCtorEq, CCT, CCv, CCr, CCk, Nat.reduceBNe, Nat.reduceLeDiff, Nat.reduceLT, beqI, bneI, List.length_map, decide_true, decide_false, Int.reduceEq, Int.reduceLT, Int.reduceLE, Int.reduceGE, Int.reduceGT, not_true_eq_false, not_false_eq_true, Bool.and_true, Bool.true_and, Bool.and_false, Bool.false_and, and_true, true_and, and_self, Bool.not_not, encTy, h0, h3, h6, hil, p1, show ¬ n > 256 by omega, show ¬ n < 8 by omega]
    refine W.iter_rule (fun k ρ s => ρ 0 = .list 32 bl (l.map encTy) none ∧ ρ 3 = .bool true ∧ ρ 6 = .int .i64 i ∧ ρ 7 = v ∧ ρ 8 = .int .i64 n ∧ ρ 11 = .int .i64 k ∧ ∃ a, ρ 10 = .int .i64 a ∧ (∀ h : k < ps.length, a = ps[k]) ∧ (k = ps.length → a = n)) ps.length ?_ ?_ _ 0 _ _ (Nat.zero_le _) ?_ ?_
    · clear hr hx
      rintro k ρ s hk ⟨h0, h3, h6, h7, h8, h11, a, h10, ha, _⟩ K2 hK2 hx hr
      have hlt : (k : Int) < (ps.length : Int) := by omega
      have hwrap2 : IntKind.i64.wrap ((k : Int) + 1) = ((k + 1 : Nat) : Int) := by rw [IntKind.wrap_i64]; omega
      have ha := ha hk
      subst ha
      obtain ⟨s1, s2, s3, s4⟩ := steps_at p2 hk
      have hget : (intsA ps)[((k : Nat) : Int).toNat]? = some (.int .i64 ps[k]) := by simp [intsA, hk]
      have hrem : ps[k].tmod 8 = 0 := by
        have : ps[k] % 8 = 0 := s1
        exact Int.tmod_eq_zero_of_dvd (Int.dvd_of_emod_eq_zero this)
      simp only [go_sem, ↓reduceIte, Nat.reduceEqDiff, Nat.reduceAdd, reduceCtorEq, CCT, CCv, CCr, CCk, Nat.reduceBNe, Nat.reduceLeDiff, Nat.reduceLT, beqI, bneI, List.length_map, decide_true, decide_false, Int.reduceEq, Int.reduceLT, Int.reduceLE, Int.reduceGE, Int.reduceGT, not_true_eq_false, not_false_eq_true, Bool.and_true, Bool.true_and, Bool.and_false, Bool.false_and, and_true, true_and, and_self, Bool.not_not, h0, h3, h6, h7, h8, h10, h11]
      refine wsl_len hsl ty_33 ?_
      simp only [go_sem, ↓reduceIte, Nat.reduceEqDiff, Nat.reduceAdd, reduceCtorEq, CCT, CCv, CCr, CCk, Nat.reduceBNe, Nat.reduceLeDiff, Nat.reduceLT, beqI, bneI, List.length_map, decide_true, decide_false, Int.reduceEq, Int.reduceLT, Int.reduceLE, Int.reduceGE, Int.reduceGT, not_true_eq_false, not_false_eq_true, Bool.and_true, Bool.true_and, Bool.and_false, Bool.false_and, and_true, true_and, and_self, Bool.not_not, h0, h3, h6, h7, h8, h10, h11, hil, hlt]
      refine wsl_idx hsl ty_33 (by omega) hget ?_
      simp only [go_sem, ↓reduceIte, Nat.reduceEqDiff, Nat.reduceAdd, reduceCtorEq, CCT, CCv, CCr, CCk, Nat.reduceBNe, Nat.reduceLeDiff, Nat.reduceLT, beqI, bneI, List.length_map, decide_true, decide_false, Int.reduceEq, Int.reduceLT, Int.reduceLE, Int.reduceGE, Int.reduceGT, not_true_eq_false, not_false_eq_true, Bool.and_true, Bool.true_and, Bool.and_false, Bool.false_and, and_true, true_and, and_self, Bool.not_not, h0, h3, h6, h7, h8, h10, h11, hil, hlt]
      refine wsl_idx hsl ty_33 (by omega) hget ?_
      simp only [go_sem, ↓reduceIte, Nat.reduceEqDiff, Nat.reduceAdd, reduceCtorEq, CCT, CCv, CCr, CCk, Nat.reduceBNe, Nat.reduceLeDiff, Nat.reduceLT, beqI, bneI, List.length_map, decide_true, decide_false, Int.reduceEq, Int.reduceLT, Int.reduceLE, Int.reduceGE, Int.reduceGT, not_true_eq_false, not_false_eq_true, Bool.and_true, Bool.true_and, Bool.and_false, Bool.false_and, and_true, true_and, and_self, Bool.not_not, h0, h3, h6, h7, h8, h10, h11, hil, hlt, hrem, show ((8 : Int) = 0) = False by simp]
      refine wsl_len hsl ty_33 ?_
      simp only [go_sem, ↓reduceIte, Nat.reduceEqDiff, Nat.reduceAdd, reduceCtorEq, CCT, CCv, CCr, CCk, Nat.reduceBNe, Nat.reduceLeDiff, Nat.reduceLT, beqI, bneI, List.length_map, decide_true, decide_false, Int.reduceEq, Int.reduceLT, Int.reduceLE, Int.reduceGE, Int.reduceGT, not_true_eq_false, not_false_eq_true, Bool.and_true, Bool.true_and, Bool.and_false, Bool.false_and, and_true, true_and, and_self, Bool.not_not, h0, h3, h6, h7, h8, h10, h11, hil, hlt, hwrap2]
      refine W.br_dec (fun hl => ?_) (fun hl => ?_)
      · have hl2 : k + 1 < ps.length := by omega
        have hget2 : (intsA ps)[(((k + 1 : Nat) : Int)).toNat]? = some (.int .i64 ps[k + 1]) := by simp [intsA, hl2]
        have hlt3 := s3 hl2
        simp only [go_sem, ↓reduceIte, Nat.reduceEqDiff, Nat.reduceAdd, reduceCtorEq, CCT, CCv, CCr, CCk, Nat.reduceBNe, Nat.reduceLeDiff, Nat.reduceLT, beqI, bneI, List.length_map, decide_true, decide_false, Int.reduceEq, Int.reduceLT, Int.reduceLE, Int.reduceGE, Int.reduceGT, not_true_eq_false, not_false_eq_true, Bool.and_true, Bool.true_and, Bool.and_false, Bool.false_and, and_true, true_and, and_self, Bool.not_not, h0, h3, h6, h7, h8, h10, h11, hil, hlt, hwrap2, hl]
        refine wsl_idx hsl ty_33 (by omega) hget2 ?_
        simp only [go_sem, ↓reduceIte, Nat.reduceEqDiff, Nat.reduceAdd, reduceCtorEq, CCT, CCv, CCr, CCk, Nat.reduceBNe, Nat.reduceLeDiff, Nat.reduceLT, beqI, bneI, List.length_map, decide_true, decide_false, Int.reduceEq, Int.reduceLT, Int.reduceLE, Int.reduceGE, Int.reduceGT, not_true_eq_false, not_false_eq_true, Bool.and_true, Bool.true_and, Bool.and_false, Bool.false_and, and_true, true_and, and_self, Bool.not_not, h0, h3, h6, h7, h8, h10, h11, hil, hlt, hwrap2, hl]
        refine wsl_idx hsl ty_33 (by omega) hget ?_
        simp only [go_sem, ↓reduceIte, Nat.reduceEqDiff, Nat.reduceAdd, reduceCtorEq, CCT, CCv, CCr, CCk, Nat.reduceBNe, Nat.reduceLeDiff, Nat.reduceLT, beqI, bneI, List.length_map, decide_true, decide_false, Int.reduceEq, Int.reduceLT, Int.reduceLE, Int.reduceGE, Int.reduceGT, not_true_eq_false, not_false_eq_true, Bool.and_true, Bool.true_and, Bool.and_false, Bool.false_and, and_true, true_and, and_self, Bool.not_not, h0, h3, h6, h7, h8, h10, h11, hil, hlt, hwrap2, hl, show ¬ ps[k + 1] ≤ ps[k] by omega]
        refine hK2 _ _ ?_
        exact ⟨by (try simp only [go_sem, ↓reduceIte, Nat.reduceEqDiff, Nat.reduceAdd, reduceCtorEq, CCT, CCv, CCr, CCk, Nat.reduceBNe, Nat.reduceLeDiff, Nat.reduceLT, beqI, bneI, List.length_map, decide_true, decide_false, Int.reduceEq, Int.reduceLT, Int.reduceLE, Int.reduceGE, Int.reduceGT, not_true_eq_false, not_false_eq_true, Bool.and_true, Bool.true_and, Bool.and_false, Bool.false_and, and_true, true_and, and_self, Bool.not_not, Int.toNat_natCast, List.length_take, *]) <;> (first | done | rfl | omega | (simp; done) | (simp; omega)), by (try simp only [go_sem, ↓reduceIte, Nat.reduceEqDiff, Nat.reduceAdd, reduceCtorEq, CCT, CCv, CCr, CCk, Nat.reduceBNe, Nat.reduceLeDiff, Nat.reduceLT, beqI, bneI, List.length_map, decide_true, decide_false, Int.reduceEq, Int.reduceLT, Int.reduceLE, Int.reduceGE, Int.reduceGT, not_true_eq_false, not_false_eq_true, Bool.and_true, Bool.true_and, Bool.and_false, Bool.false_and, and_true, true_and, and_self, Bool.not_not, Int.toNat_natCast, List.length_take, *]) <;> (first | done | rfl | omega | (simp; done) | (simp; omega)), by (try simp only [go_sem, ↓reduceIte, Nat.reduceEqDiff, Nat.reduceAdd, reduceCtorEq, CCT, CCv, CCr, CCk, Nat.reduceBNe, Nat.reduceLeDiff, Nat.reduceLT, beqI, bneI, List.length_map, decide_true, decide_false, Int.reduceEq, Int.reduceLT, Int.reduceLE, Int.reduceGE, Int.reduceGT, not_true_eq_false, not_false_eq_true, Bool.and_true, Bool.true_and, Bool.and_false, Bool.false_and, and_true, true_and, and_self, Bool.not_not, Int.toNat_natCast, List.length_take, *]) <;> (first | done | rfl | omega | (simp; done) | (simp; omega)), by (try simp only [go_sem, ↓reduceIte, Nat.reduceEqDiff, Nat.reduceAdd, reduceCtorEq, CCT, CCv, CCr, CCk, Nat.reduceBNe, Nat.reduceLeDiff, Nat.reduceLT, beqI, bneI, List.length_map, decide_true, decide_false, Int.reduceEq, Int.reduceLT, Int.reduceLE, Int.reduceGE, Int.reduceGT, not_true_eq_false, not_false_eq_true, Bool.and_true, Bool.true_and, Bool.and_false, Bool.false_and, and_true, true_and, and_self, Bool.not_not, Int.toNat_natCast, List.length_take, *]) <;> (first | done | rfl | omega | (simp; done) | (simp; omega)), by (try simp only [go_sem, ↓reduceIte, Nat.reduceEqDiff, Nat.reduceAdd, reduceCtorEq, CCT, CCv, CCr, CCk, Nat.reduceBNe, Nat.reduceLeDiff, Nat.reduceLT, beqI, bneI, List.length_map, decide_true, decide_false, Int.reduceEq, Int.reduceLT, Int.reduceLE, Int.reduceGE, Int.reduceGT, not_true_eq_false, not_false_eq_true, Bool.and_true, Bool.true_and, Bool.and_false, Bool.false_and, and_true, true_and, and_self, Bool.not_not, Int.toNat_natCast, List.length_take, *]) <;> (first | done | rfl | omega | (simp; done) | (simp; omega)), by (try simp only [go_sem, ↓reduceIte, Nat.reduceEqDiff, Nat.reduceAdd, reduceCtorEq, CCT, CCv, CCr, CCk, Nat.reduceBNe, Nat.reduceLeDiff, Nat.reduceLT, beqI, bneI, List.length_map, decide_true, decide_false, Int.reduceEq, Int.reduceLT, Int.reduceLE, Int.reduceGE, Int.reduceGT, not_true_eq_false, not_false_eq_true, Bool.and_true, Bool.true_and, Bool.and_false, Bool.false_and, and_true, true_and, and_self, Bool.not_not, Int.toNat_natCast, List.length_take, *]) <;> (first | done | rfl | omega | (simp; done) | (simp; omega)), ps[k + 1], by (try simp only [go_sem, ↓reduceIte, Nat.reduceEqDiff, Nat.reduceAdd, reduceCtorEq, CCT, CCv, CCr, CCk, Nat.reduceBNe, Nat.reduceLeDiff, Nat.reduceLT, beqI, bneI, List.length_map, decide_true, decide_false, Int.reduceEq, Int.reduceLT, Int.reduceLE, Int.reduceGE, Int.reduceGT, not_true_eq_false, not_false_eq_true, Bool.and_true, Bool.true_and, Bool.and_false, Bool.false_and, and_true, true_and, and_self, Bool.not_not, Int.toNat_natCast, List.length_take, *]) <;> (first | done | rfl | omega | (simp; done) | (simp; omega)), fun _ => rfl, fun h => by omega⟩
      · have hl2 : k + 1 = ps.length := by omega
        have hlt3 := s4 hl2
        simp only [go_sem, ↓reduceIte, Nat.reduceEqDiff, Nat.reduceAdd, reduceCtorEq, CCT, CCv, CCr, CCk, Nat.reduceBNe, Nat.reduceLeDiff, Nat.reduceLT, beqI, bneI, List.length_map, decide_true, decide_false, Int.reduceEq, Int.reduceLT, Int.reduceLE, Int.reduceGE, Int.reduceGT, not_true_eq_false, not_false_eq_true, Bool.and_true, Bool.true_and, Bool.and_false, Bool.false_and, and_true, true_and, and_self, Bool.not_not, h0, h3, h6, h7, h8, h10, h11, hil, hlt, hwrap2, hl]
        refine wsl_idx hsl ty_33 (by omega) hget ?_
        simp only [go_sem, ↓reduceIte, Nat.reduceEqDiff, Nat.reduceAdd, reduceCtorEq, CCT, CCv, CCr, CCk, Nat.reduceBNe, Nat.reduceLeDiff, Nat.reduceLT, beqI, bneI, List.length_map, decide_true, decide_false, Int.reduceEq, Int.reduceLT, Int.reduceLE, Int.reduceGE, Int.reduceGT, not_true_eq_false, not_false_eq_true, Bool.and_true, Bool.true_and, Bool.and_false, Bool.false_and, and_true, true_and, and_self, Bool.not_not, h0, h3, h6, h7, h8, h10, h11, hil, hlt, hwrap2, hl, show ¬ n ≤ ps[k] by omega]
        refine hK2 _ _ ?_
        exact ⟨by (try simp only [go_sem, ↓reduceIte, Nat.reduceEqDiff, Nat.reduceAdd, reduceCtorEq, CCT, CCv, CCr, CCk, Nat.reduceBNe, Nat.reduceLeDiff, Nat.reduceLT, beqI, bneI, List.length_map, decide_true, decide_false, Int.reduceEq, Int.reduceLT, Int.reduceLE, Int.reduceGE, Int.reduceGT, not_true_eq_false, not_false_eq_true, Bool.and_true, Bool.true_and, Bool.and_false, Bool.false_and, and_true, true_and, and_self, Bool.not_not, Int.toNat_natCast, List.length_take, *]) <;> (first | done | rfl | omega | (simp; done) | (simp; omega)), by (try simp only [go_sem, ↓reduceIte, Nat.reduceEqDiff, Nat.reduceAdd, reduceCtorEq, CCT, CCv, CCr, CCk, Nat.reduceBNe, Nat.reduceLeDiff, Nat.reduceLT, beqI, bneI, List.length_map, decide_true, decide_false, Int.reduceEq, Int.reduceLT, Int.reduceLE, Int.reduceGE, Int.reduceGT, not_true_eq_false, not_false_eq_true, Bool.and_true, Bool.true_and, Bool.and_false, Bool.false_and, and_true, true_and, and_self, Bool.not_not, Int.toNat_natCast, List.length_take, *]) <;> (first | done | rfl | omega | (simp; done) | (simp; omega)), by (try simp only [go_sem, ↓reduceIte, Nat.reduceEqDiff, Nat.reduceAdd, reduceCtorEq, CCT, CCv, CCr, CCk, Nat.reduceBNe, Nat.reduceLeDiff, Nat.reduceLT, beqI, bneI, List.length_map, decide_true, decide_false, Int.reduceEq, Int.reduceLT, Int.reduceLE, Int.reduceGE, Int.reduceGT, not_true_eq_false, not_false_eq_true, Bool.and_true, Bool.true_and, Bool.and_false, Bool.false_and, and_true, true_and, and_self, Bool.not_not, Int.toNat_natCast, List.length_take, *]) <;> (first | done | rfl | omega | (simp; done) | (simp; omega)), by (try simp only [go_sem, ↓reduceIte, Nat.reduceEqDiff, Nat.reduceAdd, reduceCtorEq, CCT, CCv, CCr, CCk, Nat.reduceBNe, Nat.reduceLeDiff, Nat.reduceLT, beqI, bneI, List.length_map, decide_true, decide_false, Int.reduceEq, Int.reduceLT, Int.reduceLE, Int.reduceGE, Int.reduceGT, not_true_eq_false, not_false_eq_true, Bool.and_true, Bool.true_and, Bool.and_false, Bool.false_and, and_true, true_and, and_self, Bool.not_not, Int.toNat_natCast, List.length_take, *]) <;> (first | done | rfl | omega | (simp; done) | (simp; omega)), by (try simp only [go_sem, ↓reduceIte, Nat.reduceEqDiff, Nat.reduceAdd, reduceCtorEq, CCT, CCv, CCr, CCk, Nat.reduceBNe, Nat.reduceLeDiff, Nat.reduceLT, beqI, bneI, List.length_map, decide_true, decide_false, Int.reduceEq, Int.reduceLT, Int.reduceLE, Int.reduceGE, Int.reduceGT, not_true_eq_false, not_false_eq_true, Bool.and_true, Bool.true_and, Bool.and_false, Bool.false_and, and_true, true_and, and_self, Bool.not_not, Int.toNat_natCast, List.length_take, *]) <;> (first | done | rfl | omega | (simp; done) | (simp; omega)), by (try simp only [go_sem, ↓reduceIte, Nat.reduceEqDiff, Nat.reduceAdd, reduceCtorEq, CCT, CCv, CCr, CCk, Nat.reduceBNe, Nat.reduceLeDiff, Nat.reduceLT, beqI, bneI, List.length_map, decide_true, decide_false, Int.reduceEq, Int.reduceLT, Int.reduceLE, Int.reduceGE, Int.reduceGT, not_true_eq_false, not_false_eq_true, Bool.and_true, Bool.true_and, Bool.and_false, Bool.false_and, and_true, true_and, and_self, Bool.not_not, Int.toNat_natCast, List.length_take, *]) <;> (first | done | rfl | omega | (simp; done) | (simp; omega)), n, by (try simp only [go_sem, ↓reduceIte, Nat.reduceEqDiff, Nat.reduceAdd, reduceCtorEq, CCT, CCv, CCr, CCk, Nat.reduceBNe, Nat.reduceLeDiff, Nat.reduceLT, beqI, bneI, List.length_map, decide_true, decide_false, Int.reduceEq, Int.reduceLT, Int.reduceLE, Int.reduceGE, Int.reduceGT, not_true_eq_false, not_false_eq_true, Bool.and_true, Bool.true_and, Bool.and_false, Bool.false_and, and_true, true_and, and_self, Bool.not_not, Int.toNat_natCast, List.length_take, *]) <;> (first | done | rfl | omega | (simp; done) | (simp; omega)), fun h => by omega, fun _ => rfl⟩
    · clear hr hx
      rintro ρ s ⟨h0, h3, h6, h7, h8, h11, a, h10, _, ha⟩ K2 hx hr
      have hlt : ¬ (ps.length : Int) < (ps.length : Int) := by omega
      have ha := ha rfl
      subst ha
      simp only [go_sem, ↓reduceIte, Nat.reduceEqDiff, Nat.reduceAdd, reduceCtorEq, CCT, CCv, CCr, CCk, Nat.reduceBNe, Nat.reduceLeDiff, Nat.reduceLT, beqI, bneI, List.length_map, decide_true, decide_false, Int.reduceEq, Int.reduceLT, Int.reduceLE, Int.reduceGE, Int.reduceGT, not_true_eq_false, not_false_eq_true, Bool.and_true, Bool.true_and, Bool.and_false, Bool.false_and, and_true, true_and, and_self, Bool.not_not, h0, h3, h6, h7, h8, h10, h11]
      refine wsl_len hsl ty_33 ?_
      simp only [go_sem, ↓reduceIte, Nat.reduceEqDiff, Nat.reduceAdd, reduceCtorEq, CCT, CCv, CCr, CCk, Nat.reduceBNe, Nat.reduceLeDiff, Nat.reduceLT, beqI, bneI, List.length_map, decide_true, decide_false, Int.reduceEq, Int.reduceLT, Int.reduceLE, Int.reduceGE, Int.reduceGT, not_true_eq_false, not_false_eq_true, Bool.and_true, Bool.true_and, Bool.and_false, Bool.false_and, and_true, true_and, and_self, Bool.not_not, hx, h0, h3, h6, h7, h8, h10, h11, hil, hlt, hwrap]
      refine hK _ _ ?_
      exact ⟨by (try simp only [go_sem, ↓reduceIte, Nat.reduceEqDiff, Nat.reduceAdd, reduceCtorEq, CCT, CCv, CCr, CCk, Nat.reduceBNe, Nat.reduceLeDiff, Nat.reduceLT, beqI, bneI, List.length_map, decide_true, decide_false, Int.reduceEq, Int.reduceLT, Int.reduceLE, Int.reduceGE, Int.reduceGT, not_true_eq_false, not_false_eq_true, Bool.and_true, Bool.true_and, Bool.and_false, Bool.false_and, and_true, true_and, and_self, Bool.not_not, Int.toNat_natCast, List.length_take, *]) <;> (first | done | rfl | omega | (simp; done) | (simp; omega)), by (try simp only [go_sem, ↓reduceIte, Nat.reduceEqDiff, Nat.reduceAdd, reduceCtorEq, CCT, CCv, CCr, CCk, Nat.reduceBNe, Nat.reduceLeDiff, Nat.reduceLT, beqI, bneI, List.length_map, decide_true, decide_false, Int.reduceEq, Int.reduceLT, Int.reduceLE, Int.reduceGE, Int.reduceGT, not_true_eq_false, not_false_eq_true, Bool.and_true, Bool.true_and, Bool.and_false, Bool.false_and, and_true, true_and, and_self, Bool.not_not, Int.toNat_natCast, List.length_take, *]) <;> (first | done | rfl | omega | (simp; done) | (simp; omega)), by (try simp only [go_sem, ↓reduceIte, Nat.reduceEqDiff, Nat.reduceAdd, reduceCtorEq, CCT, CCv, CCr, CCk, Nat.reduceBNe, Nat.reduceLeDiff, Nat.reduceLT, beqI, bneI, List.length_map, decide_true, decide_false, Int.reduceEq, Int.reduceLT, Int.reduceLE, Int.reduceGE, Int.reduceGT, not_true_eq_false, not_false_eq_true, Bool.and_true, Bool.true_and, Bool.and_false, Bool.false_and, and_true, true_and, and_self, Bool.not_not, Int.toNat_natCast, List.length_take, *]) <;> (first | done | rfl | omega | (simp; done) | (simp; omega))⟩
    · show ps.length < 0 + 9223372036854775900
      omega
    · refine ⟨by (try simp only [go_sem, ↓reduceIte, Nat.reduceEqDiff, Nat.reduceAdd, reduceCtorEq, CCT, CCv, CCr, CCk, Nat.reduceBNe, Nat.reduceLeDiff, Nat.reduceLT, beqI, bneI, List.length_map, decide_true, decide_false, Int.reduceEq, Int.reduceLT, Int.reduceLE, Int.reduceGE, Int.reduceGT, not_true_eq_false, not_false_eq_true, Bool.and_true, Bool.true_and, Bool.and_false, Bool.false_and, and_true, true_and, and_self, Bool.not_not, Int.toNat_natCast, List.length_take, *]) <;> (first | done | rfl | omega | (simp; done) | (simp; omega)), by (try simp only [go_sem, ↓reduceIte, Nat.reduceEqDiff, Nat.reduceAdd, reduceCtorEq, CCT, CCv, CCr, CCk, Nat.reduceBNe, Nat.reduceLeDiff, Nat.reduceLT, beqI, bneI, List.length_map, decide_true, decide_false, Int.reduceEq, Int.reduceLT, Int.reduceLE, Int.reduceGE, Int.reduceGT, not_true_eq_false, not_false_eq_true, Bool.and_true, Bool.true_and, Bool.and_false, Bool.false_and, and_true, true_and, and_self, Bool.not_not, Int.toNat_natCast, List.length_take, *]) <;> (first | done | rfl | omega | (simp; done) | (simp; omega)), by (try simp only [go_sem, ↓reduceIte, Nat.reduceEqDiff, Nat.reduceAdd, reduceCtorEq, CCT, CCv, CCr, CCk, Nat.reduceBNe, Nat.reduceLeDiff, Nat.reduceLT, beqI, bneI, List.length_map, decide_true, decide_false, Int.reduceEq, Int.reduceLT, Int.reduceLE, Int.reduceGE, Int.reduceGT, not_true_eq_false, not_false_eq_true, Bool.and_true, Bool.true_and, Bool.and_false, Bool.false_and, and_true, true_and, and_self, Bool.not_not, Int.toNat_natCast, List.length_take, *]) <;> (first | done | rfl | omega | (simp; done) | (simp; omega)), by (try simp only [go_sem, ↓reduceIte, Nat.reduceEqDiff, Nat.reduceAdd, reduceCtorEq, CCT, CCv, CCr, CCk, Nat.reduceBNe, Nat.reduceLeDiff, Nat.reduceLT, beqI, bneI, List.length_map, decide_true, decide_false, Int.reduceEq, Int.reduceLT, Int.reduceLE, Int.reduceGE, Int.reduceGT, not_true_eq_false, not_false_eq_true, Bool.and_true, Bool.true_and, Bool.and_false, Bool.false_and, and_true, true_and, and_self, Bool.not_not, Int.toNat_natCast, List.length_take, *]) <;> (first | done | rfl | omega | (simp; done) | (simp; omega)), by (try simp only [go_sem, ↓reduceIte, Nat.reduceEqDiff, Nat.reduceAdd, reduceCtorEq, CCT, CCv, CCr, CCk, Nat.reduceBNe, Nat.reduceLeDiff, Nat.reduceLT, beqI, bneI, List.length_map, decide_true, decide_false, Int.reduceEq, Int.reduceLT, Int.reduceLE, Int.reduceGE, Int.reduceGT, not_true_eq_false, not_false_eq_true, Bool.and_true, Bool.true_and, Bool.and_false, Bool.false_and, and_true, true_and, and_self, Bool.not_not, Int.toNat_natCast, List.length_take, *]) <;> (first | done | rfl | omega | (simp; done) | (simp; omega)), by (try simp only [go_sem, ↓reduceIte, Nat.reduceEqDiff, Nat.reduceAdd, reduceCtorEq, CCT, CCv, CCr, CCk, Nat.reduceBNe, Nat.reduceLeDiff, Nat.reduceLT, beqI, bneI, List.length_map, decide_true, decide_false, Int.reduceEq, Int.reduceLT, Int.reduceLE, Int.reduceGE, Int.reduceGT, not_true_eq_false, not_false_eq_true, Bool.and_true, Bool.true_and, Bool.and_false, Bool.false_and, and_true, true_and, and_self, Bool.not_not, Int.toNat_natCast, List.length_take, *]) <;> (first | done | rfl | omega | (simp; done) | (simp; omega)), 8, by (try simp only [go_sem, ↓reduceIte, Nat.reduceEqDiff, Nat.reduceAdd, reduceCtorEq, CCT, CCv, CCr, CCk, Nat.reduceBNe, Nat.reduceLeDiff, Nat.reduceLT, beqI, bneI, List.length_map, decide_true, decide_false, Int.reduceEq, Int.reduceLT, Int.reduceLE, Int.reduceGE, Int.reduceGT, not_true_eq_false, not_false_eq_true, Bool.and_true, Bool.true_and, Bool.and_false, Bool.false_and, and_true, true_and, and_self, Bool.not_not, Int.toNat_natCast, List.length_take, *]) <;> (first | done | rfl | omega | (simp; done) | (simp; omega)), fun h => ((steps_at p2 h).2.1 rfl).symm, fun h => ?_⟩
      have : ps = [] := by cases ps; rfl; simp at h
      subst this
      exact p2
  · rintro ρ s ⟨h0, h3, h6⟩ K hx hr
    have hlt : ¬ (l.length : Int) < (l.length : Int) := by omega
    simp only [go_sem, ↓reduceIte, Nat.reduceEqDiff, Nat.reduceAdd, reduceCtorEq, CCT, CCv, CCr, CCk, Nat.reduceBNe, Nat.reduceLeDiff, Nat.reduceLT, beqI, bneI, List.length_map, decide_true, decide_false, Int.reduceEq, Int.reduceLT, Int.reduceLE, Int.reduceGE, Int.reduceGT, not_true_eq_false, not_false_eq_true, Bool.and_true, Bool.true_and, Bool.and_false, Bool.false_and, and_true, true_and, and_self, Bool.not_not, hx, h0, h3, h6, hlt]
    rfl
  · show l.length < 0 + 9223372036854775900
    omega
  · exact ⟨by (try simp only [go_sem, ↓reduceIte, Nat.reduceEqDiff, Nat.reduceAdd, reduceCtorEq, CCT, CCv, CCr, CCk, Nat.reduceBNe, Nat.reduceLeDiff, Nat.reduceLT, beqI, bneI, List.length_map, decide_true, decide_false, Int.reduceEq, Int.reduceLT, Int.reduceLE, Int.reduceGE, Int.reduceGT, not_true_eq_false, not_false_eq_true, Bool.and_true, Bool.true_and, Bool.and_false, Bool.false_and, and_true, true_and, and_self, Bool.not_not, Int.toNat_natCast, List.length_take, *]) <;> (first | done | rfl | omega | (simp; done) | (simp; omega)), by (try simp only [go_sem, ↓reduceIte, Nat.reduceEqDiff, Nat.reduceAdd, reduceCtorEq, CCT, CCv, CCr, CCk, Nat.reduceBNe, Nat.reduceLeDiff, Nat.reduceLT, beqI, bneI, List.length_map, decide_true, decide_false, Int.reduceEq, Int.reduceLT, Int.reduceLE, Int.reduceGE, Int.reduceGT, not_true_eq_false, not_false_eq_true, Bool.and_true, Bool.true_and, Bool.and_false, Bool.false_and, and_true, true_and, and_self, Bool.not_not, Int.toNat_natCast, List.length_take, *]) <;> (first | done | rfl | omega | (simp; done) | (simp; omega)), by (try simp only [go_sem, ↓reduceIte, Nat.reduceEqDiff, Nat.reduceAdd, reduceCtorEq, CCT, CCv, CCr, CCk, Nat.reduceBNe, Nat.reduceLeDiff, Nat.reduceLT, beqI, bneI, List.length_map, decide_true, decide_false, Int.reduceEq, Int.reduceLT, Int.reduceLE, Int.reduceGE, Int.reduceGT, not_true_eq_false, not_false_eq_true, Bool.and_true, Bool.true_and, Bool.and_false, Bool.false_and, and_true, true_and, and_self, Bool.not_not, Int.toNat_natCast, List.length_take, *]) <;> (first | done | rfl | omega | (simp; done) | (simp; omega))⟩
theorem apart_law (d : Nat) (a : AV) (h : Arg T 22 a) : ∃ σ', evalF Try.prog CC (d + 60) 5 [a] St.empty = some (.bool true, σ') := by
  obtain ⟨b, l, rfl, h1, h2, _⟩ := arg_typs h
  exact ⟨_, law5 d b l h1⟩
end Go.Proofs.Ytjembadjfiohpaa.Va

/- chapter 4's rows of numbers, chapter 5's bytes -/
namespace Go.Proofs.Ytjembadjfiohpaa.Va
open Go
set_option linter.unusedVariables false
set_option linter.unusedSimpArgs false
set_option maxRecDepth 100000
section
variable {R : Type} {P : Option R → Prop}
/-- Append to a row that is not empty. -/
theorem gfx {T : Tab} {mr : Mem} {σ : St} {t e : TypeId} {xs ys : List AV} {v x : AV} {kk : Option Nat} {k : AV → St → Option R} {y : Lz R} (hg : Gf e xs σ v kk) (hx : xs ≠ []) (ht : T.ty t = some (.slice e)) (hn : @newsOf T mr false e x = some ys) (hr : roomy T e (xs.length + ys.length) = true)
    (h : Wp P (k (.list e false (xs ++ ys) (some (σ.ntok + 1))) (σ.tokNew kk))) : Wp P (@br R (noView v) ⟨@bnd2 R (@aAppend T mr ⟨σ⟩ false t v x) ⟨k⟩⟩ y) := by
  have hs : isSliceT T t = true := by simp [isSliceT, ht]
  have he : elemT T t = e := by simp [elemT, ht]
  rcases hg with (⟨rfl, rfl, rfl⟩ | ⟨h0, tk, rfl, rfl, h1, h2⟩) | ⟨rfl, rfl⟩
  · exact absurd rfl hx
  · refine W.br_ok rfl ?_
    rw [app_list2, hs, he, hn]
    simp only [BEq.rfl, Bool.and_self, br_true, bnd_some, hr, h1, Bool.false_and]
    exact h
  · refine W.br_ok rfl ?_
    rw [app_full2, hs, he, hn]
    simp only [BEq.rfl, Bool.and_self, br_true, bnd_some, hr, Bool.false_and]
    exact h
end
theorem Gf.list {e : TypeId} {xs : List AV} {σ : St} {v : AV} {k : Option Nat} (h : Gf e xs σ v k) (hx : xs ≠ []) : ∃ tt, v = .list e false xs (some tt) := by
  rcases h with (⟨h, _, _⟩ | ⟨_, tk, rfl, rfl, _⟩) | ⟨_, rfl⟩
  · exact absurd h hx
  · exact ⟨_, rfl⟩
  · exact ⟨_, rfl⟩
theorem tok_or {k : Option Nat} : k = none ∨ none ≠ k := by cases k <;> simp
/-- What a call that makes a row at most does to another row. -/
theorem Gf.call {e : TypeId} {xs : List AV} {σ σ' : St} {v : AV} {k kk : Option Nat} (h : Gf e xs σ v k) (hs : σ' = σ ∧ kk = none ∨ σ' = σ.tokNew none ∧ kk = some σ.ntok) : Gf e xs σ' v k := by
  rcases hs with ⟨rfl, _⟩ | ⟨rfl, _⟩
  · exact h
  · exact h.tokNew tok_or
theorem Gw.call {e : TypeId} {xs : List AV} {σ σ' : St} {v : AV} {k kk : Option Nat} (h : Gw e xs σ v k) (hs : σ' = σ ∧ kk = none ∨ σ' = σ.tokNew none ∧ kk = some σ.ntok) : Gw e xs σ' v k := by
  rcases hs with ⟨rfl, _⟩ | ⟨rfl, _⟩
  · exact h
  · exact h.tokNew tok_or
theorem valSt_grow {e : TypeId} {xs : List AV} {k : IntKind} {n : Int} : valSt (.tup [growR e xs, .int k n]) = valSt (growR e xs) := by unfold growR; split <;> rfl
def intOk (n : Int) : Bool := decide (0 ≤ n) && decide (n ≤ 2147483647)
def intsB (l : List Int) : List Int := l.flatMap fun n => numL n.toNat
def intsR (xs : List Int) : List Int × Int := if 1000 < xs.length then ([], 11) else if xs.all intOk = true then (numL xs.length ++ intsB xs, 0) else ([], 1)
theorem intsB_len : ∀ {l : List Int}, (∀ x ∈ l, intOk x = true) → (intsB l).length ≤ 5 * l.length
  | [], _ => by simp [intsB]
  | x :: l, h => by
    have h1 := h x (by simp)
    simp only [intOk, Bool.and_eq_true, decide_eq_true_eq] at h1
    have h2 := numL_len 4 x.toNat (by omega)
    have h3 := intsB_len (l := l) fun y hy => h y (by simp [hy])
    simp only [intsB, List.flatMap_cons, List.length_append, List.length_cons] at h3 ⊢
    omega
theorem intsB_snoc (l : List Int) (x : Int) : intsB (l ++ [x]) = intsB l ++ numL x.toNat := by simp [intsB]
theorem Ints_c (d : Nat) (b : Bool) (xs : List Int) : evalF Try.prog CC (d + 2) 30 [.list 3 b (intsA xs) none] St.empty = some (.tup [growR 5 (bytesI (intsR xs).1), .int .i64 (intsR xs).2], valSt (growR 5 (bytesI (intsR xs).1))) := by
  generalize hX : some ((.tup [growR 5 (bytesI (intsR xs).1), .int .i64 (intsR xs).2], valSt (growR 5 (bytesI (intsR xs).1))) : AV × St) = X
  have hil : (intsA xs).length = xs.length := by simp [intsA]
  refine wp_eq ?_
  rw [run_30 _ _ _ (by simp)]; unfold Try.f30; simp only [Option.getD_some]
  simp only [go_sem, ↓reduceIte, Nat.reduceEqDiff, Nat.reduceAdd, reduceCtorEq, CCT, CCv, CCr, CCk, Nat.reduceBNe, Nat.reduceLeDiff, Nat.reduceLT, beqI, bneI, List.length_map, decide_true, decide_false, Int.reduceEq, Int.reduceLT, Int.reduceLE, Int.reduceGE, Int.reduceGT, not_true_eq_false, not_false_eq_true, Bool.and_true, Bool.true_and, Bool.and_false, Bool.false_and, and_true, true_and, and_self, Bool.not_not, hil]
  refine W.br_dec (fun h1000 => ?_) (fun h1000 => ?_)
  · have : intsR xs = ([], 11) := by rw [intsR, if_pos (by omega)]
    rw [this] at hX
    simp only [go_sem, ↓reduceIte, Nat.reduceEqDiff, Nat.reduceAdd, reduceCtorEq, CCT, CCv, CCr, CCk, Nat.reduceBNe, Nat.reduceLeDiff, Nat.reduceLT, beqI, bneI, List.length_map, decide_true, decide_false, Int.reduceEq, Int.reduceLT, Int.reduceLE, Int.reduceGE, Int.reduceGT, not_true_eq_false, not_false_eq_true, Bool.and_true, Bool.true_and, Bool.and_false, Bool.false_and, and_true, true_and, and_self, Bool.not_not, h1000, hil]
    exact hX
  have hw : IntKind.u64.wrap (xs.length : Int) = (xs.length : Nat) := by rw [IntKind.wrap_u64]; omega
  have hlen : (numL xs.length).length ≤ 2 := numL_len 1 _ (by omega)
  simp only [go_sem, ↓reduceIte, Nat.reduceEqDiff, Nat.reduceAdd, reduceCtorEq, CCT, CCv, CCr, CCk, Nat.reduceBNe, Nat.reduceLeDiff, Nat.reduceLT, beqI, bneI, List.length_map, decide_true, decide_false, Int.reduceEq, Int.reduceLT, Int.reduceLE, Int.reduceGE, Int.reduceGT, not_true_eq_false, not_false_eq_true, Bool.and_true, Bool.true_and, Bool.and_false, Bool.false_and, and_true, true_and, and_self, Bool.not_not, h1000, hil, hw]
  refine W.call_gw (Number_c d xs.length (by omega)) rfl ?_
  intro v σ kk hg hσ
  simp only [go_sem, ↓reduceIte, Nat.reduceEqDiff, Nat.reduceAdd, reduceCtorEq, CCT, CCv, CCr, CCk, Nat.reduceBNe, Nat.reduceLeDiff, Nat.reduceLT, beqI, bneI, List.length_map, decide_true, decide_false, Int.reduceEq, Int.reduceLT, Int.reduceLE, Int.reduceGE, Int.reduceGT, not_true_eq_false, not_false_eq_true, Bool.and_true, Bool.true_and, Bool.and_false, Bool.false_and, and_true, true_and, and_self, Bool.not_not, h1000, hil, hw]
  clear hσ
  refine W.iter_rule (fun i ρ σ => ρ 14 = .list 3 b (intsA xs) none ∧ ρ 15 = .int .i64 xs.length ∧ ρ 16 = .int .i64 i ∧ (∀ x ∈ xs.take i, intOk x = true) ∧ ∃ kk, Gw 5 (bytesI (numL xs.length ++ intsB (xs.take i))) σ (ρ 4) kk) xs.length ?_ ?_ _ 0 _ _ (Nat.zero_le _) ?_ ?_
  · clear hg
    rintro i ρ σ hi ⟨h14, h15, h16, hall, kk, hg⟩ K hK hx hr
    have hlt : (i : Int) < (xs.length : Int) := by omega
    have hwrap : IntKind.i64.wrap ((i : Int) + 1) = ((i + 1 : Nat) : Int) := by rw [IntKind.wrap_i64]; omega
    have hidx : idxOk (i : Int) xs.length = true := by simp [idxOk]; omega
    have hget : (intsA xs)[((i : Nat) : Int).toNat]? = some (.int .i64 xs[i]) := by simp [intsA, hi]
    have hsn : xs.take (i + 1) = xs.take i ++ [xs[i]] := List.take_succ_eq_append_getElem hi
    have hmem := List.getElem_mem hi
    have hbl := intsB_len hall
    rw [List.length_take] at hbl
    generalize xs[i] = x at hget hsn hmem
    have hbad : intOk x = false → intsR xs = ([], 1) := by
      intro hb
      have : xs.all intOk = false := by rw [List.all_eq_false]; exact ⟨x, hmem, by simp [hb]⟩
      rw [intsR, if_neg (by omega), this]
      rfl
    by_cases hb0 : x < 0
    · rw [hbad (by simp [intOk]; omega)] at hX
      simp only [go_sem, ↓reduceIte, Nat.reduceEqDiff, Nat.reduceAdd, reduceCtorEq, CCT, CCv, CCr, CCk, Nat.reduceBNe, Nat.reduceLeDiff, Nat.reduceLT, beqI, bneI, List.length_map, decide_true, decide_false, Int.reduceEq, Int.reduceLT, Int.reduceLE, Int.reduceGE, Int.reduceGT, not_true_eq_false, not_false_eq_true, Bool.and_true, Bool.true_and, Bool.and_false, Bool.false_and, and_true, true_and, and_self, Bool.not_not, h14, h15, h16, hlt, hil, hidx, hget, hb0, hr]
      exact hX
    by_cases hb1 : x > 2147483647
    · rw [hbad (by simp [intOk]; omega)] at hX
      simp only [go_sem, ↓reduceIte, Nat.reduceEqDiff, Nat.reduceAdd, reduceCtorEq, CCT, CCv, CCr, CCk, Nat.reduceBNe, Nat.reduceLeDiff, Nat.reduceLT, beqI, bneI, List.length_map, decide_true, decide_false, Int.reduceEq, Int.reduceLT, Int.reduceLE, Int.reduceGE, Int.reduceGT, not_true_eq_false, not_false_eq_true, Bool.and_true, Bool.true_and, Bool.and_false, Bool.false_and, and_true, true_and, and_self, Bool.not_not, h14, h15, h16, hlt, hil, hidx, hget, hb0, hb1, hr]
      exact hX
    have e1 : IntKind.u64.wrap x = (x.toNat : Nat) := by rw [IntKind.wrap_u64]; omega
    have hl5 := numL_len 4 x.toNat (by omega)
    simp only [go_sem, ↓reduceIte, Nat.reduceEqDiff, Nat.reduceAdd, reduceCtorEq, CCT, CCv, CCr, CCk, Nat.reduceBNe, Nat.reduceLeDiff, Nat.reduceLT, beqI, bneI, List.length_map, decide_true, decide_false, Int.reduceEq, Int.reduceLT, Int.reduceLE, Int.reduceGE, Int.reduceGT, not_true_eq_false, not_false_eq_true, Bool.and_true, Bool.true_and, Bool.and_false, Bool.false_and, and_true, true_and, and_self, Bool.not_not, h14, h15, h16, hlt, hil, hidx, hget, hb0, hb1, e1]
    refine W.call_gw (Number_c d x.toNat (by omega)) rfl ?_
    intro v' σ' kk' hg' hσ'
    have hg2 := hg.call hσ'
    simp only [go_sem, ↓reduceIte, Nat.reduceEqDiff, Nat.reduceAdd, reduceCtorEq, CCT, CCv, CCr, CCk, Nat.reduceBNe, Nat.reduceLeDiff, Nat.reduceLT, beqI, bneI, List.length_map, decide_true, decide_false, Int.reduceEq, Int.reduceLT, Int.reduceLE, Int.reduceGE, Int.reduceGT, not_true_eq_false, not_false_eq_true, Bool.and_true, Bool.true_and, Bool.and_false, Bool.false_and, and_true, true_and, and_self, Bool.not_not, h14, h15, h16, hlt, hil, hidx, hget, hb0, hb1, e1]
    refine W.gw_app (T := T) (t := 43) hg2 (ys := bytesI (numL x.toNat)) (by simp [bytesI, numL_ne]) rfl ?_ ?_ ?_
    · exact gw_news hg'
    · refine roomy_of ?_ (by decide)
      simp only [bytesI, List.length_map, List.length_append]
      omega
    simp only [go_sem, ↓reduceIte, Nat.reduceEqDiff, Nat.reduceAdd, reduceCtorEq, CCT, CCv, CCr, CCk, Nat.reduceBNe, Nat.reduceLeDiff, Nat.reduceLT, beqI, bneI, List.length_map, decide_true, decide_false, Int.reduceEq, Int.reduceLT, Int.reduceLE, Int.reduceGE, Int.reduceGT, not_true_eq_false, not_false_eq_true, Bool.and_true, Bool.true_and, Bool.and_false, Bool.false_and, and_true, true_and, and_self, Bool.not_not, h14, h15, h16, hlt, hil, hidx, hget, hb0, hb1, e1, hwrap]
    refine hK _ _ ?_
    refine ⟨by (try simp only [go_sem, ↓reduceIte, Nat.reduceEqDiff, Nat.reduceAdd, reduceCtorEq, CCT, CCv, CCr, CCk, Nat.reduceBNe, Nat.reduceLeDiff, Nat.reduceLT, beqI, bneI, List.length_map, decide_true, decide_false, Int.reduceEq, Int.reduceLT, Int.reduceLE, Int.reduceGE, Int.reduceGT, not_true_eq_false, not_false_eq_true, Bool.and_true, Bool.true_and, Bool.and_false, Bool.false_and, and_true, true_and, and_self, Bool.not_not, Int.toNat_natCast, List.length_take, *]) <;> (first | done | rfl | omega | (simp; done) | (simp; omega)), by (try simp only [go_sem, ↓reduceIte, Nat.reduceEqDiff, Nat.reduceAdd, reduceCtorEq, CCT, CCv, CCr, CCk, Nat.reduceBNe, Nat.reduceLeDiff, Nat.reduceLT, beqI, bneI, List.length_map, decide_true, decide_false, Int.reduceEq, Int.reduceLT, Int.reduceLE, Int.reduceGE, Int.reduceGT, not_true_eq_false, not_false_eq_true, Bool.and_true, Bool.true_and, Bool.and_false, Bool.false_and, and_true, true_and, and_self, Bool.not_not, Int.toNat_natCast, List.length_take, *]) <;> (first | done | rfl | omega | (simp; done) | (simp; omega)), by (try simp only [go_sem, ↓reduceIte, Nat.reduceEqDiff, Nat.reduceAdd, reduceCtorEq, CCT, CCv, CCr, CCk, Nat.reduceBNe, Nat.reduceLeDiff, Nat.reduceLT, beqI, bneI, List.length_map, decide_true, decide_false, Int.reduceEq, Int.reduceLT, Int.reduceLE, Int.reduceGE, Int.reduceGT, not_true_eq_false, not_false_eq_true, Bool.and_true, Bool.true_and, Bool.and_false, Bool.false_and, and_true, true_and, and_self, Bool.not_not, Int.toNat_natCast, List.length_take, *]) <;> (first | done | rfl | omega | (simp; done) | (simp; omega)), ?_, some σ'.ntok, ?_⟩
    · intro y hy
      rw [hsn, List.mem_append, List.mem_singleton] at hy
      rcases hy with hy | rfl
      · exact hall y hy
      · simp [intOk]; omega
    · simp only [go_sem, ↓reduceIte, Nat.reduceEqDiff, Nat.reduceAdd, reduceCtorEq, CCT, CCv, CCr, CCk, Nat.reduceBNe, Nat.reduceLeDiff, Nat.reduceLT, beqI, bneI, List.length_map, decide_true, decide_false, Int.reduceEq, Int.reduceLT, Int.reduceLE, Int.reduceGE, Int.reduceGT, not_true_eq_false, not_false_eq_true, Bool.and_true, Bool.true_and, Bool.and_false, Bool.false_and, and_true, true_and, and_self, Bool.not_not, h14]
      have : bytesI (numL xs.length ++ intsB (xs.take (i + 1))) = bytesI (numL xs.length ++ intsB (xs.take i)) ++ bytesI (numL x.toNat) := by
        rw [hsn, intsB_snoc]; simp [bytesI]
      rw [this]
      exact .new (by simp [bytesI, numL_ne])
  · rintro ρ σ ⟨h14, h15, h16, hall, kk, hg⟩ K hx hr
    rw [List.take_length] at hall hg
    have hlt : ¬ (xs.length : Int) < (xs.length : Int) := by omega
    have : intsR xs = (numL xs.length ++ intsB xs, 0) := by
      rw [intsR, if_neg (by omega), if_pos (List.all_eq_true.2 hall)]
    rw [this] at hX
    simp only [go_sem, ↓reduceIte, Nat.reduceEqDiff, Nat.reduceAdd, reduceCtorEq, CCT, CCv, CCr, CCk, Nat.reduceBNe, Nat.reduceLeDiff, Nat.reduceLT, beqI, bneI, List.length_map, decide_true, decide_false, Int.reduceEq, Int.reduceLT, Int.reduceLE, Int.reduceGE, Int.reduceGT, not_true_eq_false, not_false_eq_true, Bool.and_true, Bool.true_and, Bool.and_false, Bool.false_and, and_true, true_and, and_self, Bool.not_not, hx, h14, h15, h16, hlt, hil, gw_comp hg]
    refine W.gw_ret_tup (vs := [.int .i64 0]) (us := [.int .i64 0]) hg rfl ?_
    rw [valSt_grow]
    exact hX
  · show xs.length < 0 + 9223372036854775900
    omega
  · refine ⟨by (try simp only [go_sem, ↓reduceIte, Nat.reduceEqDiff, Nat.reduceAdd, reduceCtorEq, CCT, CCv, CCr, CCk, Nat.reduceBNe, Nat.reduceLeDiff, Nat.reduceLT, beqI, bneI, List.length_map, decide_true, decide_false, Int.reduceEq, Int.reduceLT, Int.reduceLE, Int.reduceGE, Int.reduceGT, not_true_eq_false, not_false_eq_true, Bool.and_true, Bool.true_and, Bool.and_false, Bool.false_and, and_true, true_and, and_self, Bool.not_not, Int.toNat_natCast, List.length_take, *]) <;> (first | done | rfl | omega | (simp; done) | (simp; omega)), by (try simp only [go_sem, ↓reduceIte, Nat.reduceEqDiff, Nat.reduceAdd, reduceCtorEq, CCT, CCv, CCr, CCk, Nat.reduceBNe, Nat.reduceLeDiff, Nat.reduceLT, beqI, bneI, List.length_map, decide_true, decide_false, Int.reduceEq, Int.reduceLT, Int.reduceLE, Int.reduceGE, Int.reduceGT, not_true_eq_false, not_false_eq_true, Bool.and_true, Bool.true_and, Bool.and_false, Bool.false_and, and_true, true_and, and_self, Bool.not_not, Int.toNat_natCast, List.length_take, *]) <;> (first | done | rfl | omega | (simp; done) | (simp; omega)), by (try simp only [go_sem, ↓reduceIte, Nat.reduceEqDiff, Nat.reduceAdd, reduceCtorEq, CCT, CCv, CCr, CCk, Nat.reduceBNe, Nat.reduceLeDiff, Nat.reduceLT, beqI, bneI, List.length_map, decide_true, decide_false, Int.reduceEq, Int.reduceLT, Int.reduceLE, Int.reduceGE, Int.reduceGT, not_true_eq_false, not_false_eq_true, Bool.and_true, Bool.true_and, Bool.and_false, Bool.false_and, and_true, true_and, and_self, Bool.not_not, Int.toNat_natCast, List.length_take, *]) <;> (first | done | rfl | omega | (simp; done) | (simp; omega)), by simp, kk, ?_⟩
    simp only [go_sem, ↓reduceIte, Nat.reduceEqDiff, Nat.reduceAdd, reduceCtorEq, CCT, CCv, CCr, CCk, Nat.reduceBNe, Nat.reduceLeDiff, Nat.reduceLT, beqI, bneI, List.length_map, decide_true, decide_false, Int.reduceEq, Int.reduceLT, Int.reduceLE, Int.reduceGE, Int.reduceGT, not_true_eq_false, not_false_eq_true, Bool.and_true, Bool.true_and, Bool.and_false, Bool.false_and, and_true, true_and, and_self, Bool.not_not, hil]
    simpa [intsB] using hg
section
variable {R : Type} {P : Option R → Prop}
theorem call31 {d n : Nat} {σ : St} {ids : List Nat} {k : AV → St → Option R} (hn : n < 2 ^ 31) (hids : ids = [])
    (h : ∀ v σ' kk, Gf 5 (bytesI (numL n)) σ' v kk → (σ' = σ ∧ kk = none ∨ σ' = σ.tokNew none ∧ kk = some σ.ntok) → Wp P (k v σ')) :
    Wp P (@bnd2 R (evalF Try.prog CC (d + 5) 31 [.int .u64 n] St.empty) ⟨fun v s => @br R (noMem v) ⟨k v σ⟩ ⟨@br R false ⟨none⟩ ⟨@bnd2 R (retok s (killAll σ ids) v) ⟨k⟩⟩⟩⟩) := by
  by_cases h128 : n < 128
  · rw [refNumber_lt (d + 4) n h128]
    subst hids
    simp only [go_sem, ↓reduceIte, kill_nil]
    exact h _ σ none .lit (.inl ⟨rfl, rfl⟩)
  · have hne : bytesI (numL n) ≠ [] := by simp [bytesI, numL_ne]
    refine W.call_gw (xs := bytesI (numL n)) (e := 5) (by rw [refNumber_ge 3 d n (by omega) (by omega) h128]; simp [growR, hne, valSt, valSt1]) hids ?_
    intro v σ' kk hg hσ
    exact h v σ' kk (.inl hg) hσ
end
def textR (s : ByteArray) : List Int × Int := if nameB s = true then (textL s, 0) else ([], 1)
theorem Text_r (d : Nat) (s : ByteArray) : evalF Try.prog CC (d + 2) 29 [.str s] St.empty = some (.tup [growR 5 (bytesI (textR s).1), .int .i64 (textR s).2], valSt (growR 5 (bytesI (textR s).1))) := by
  rw [Text_c]
  cases h : nameB s
  · simp [textR, h, growR, bytesI, valSt, valSt1, St.empty]
  · simp [textR, h]
theorem textR_len (s : ByteArray) : (textR s).1.length ≤ 17 := by
  unfold textR
  split
  · rename_i h
    have hsz : 0 < s.size ∧ s.size ≤ 16 := by simp [nameB] at h; omega
    have hlen : (numL s.size).length ≤ 1 := numL_len 0 _ (by omega)
    have hs1 : (strI s).length = s.size := strI_len s
    simp only [textL, List.length_append]
    omega
  · simp
theorem refText_c (d : Nat) (s : ByteArray) (hs : s.size ≤ 9223372036854775807) : evalF Try.prog CC (d + 6) 32 [.str s] St.empty = some (.tup [growR 5 (bytesI (textR s).1), .int .i64 (textR s).2], valSt (growR 5 (bytesI (textR s).1))) := by
  generalize hX : some ((.tup [growR 5 (bytesI (textR s).1), .int .i64 (textR s).2], valSt (growR 5 (bytesI (textR s).1))) : AV × St) = X
  have hn := fun d => Name_c d s hs
  refine wp_eq ?_
  rw [run_32 _ _ _ (by simp)]; unfold Try.f32; simp only [Option.getD_some]
  simp only [go_sem, ↓reduceIte, Nat.reduceEqDiff, Nat.reduceAdd, reduceCtorEq, CCT, CCv, CCr, CCk, Nat.reduceBNe, Nat.reduceLeDiff, Nat.reduceLT, beqI, bneI, List.length_map, decide_true, decide_false, Int.reduceEq, Int.reduceLT, Int.reduceLE, Int.reduceGE, Int.reduceGT, not_true_eq_false, not_false_eq_true, Bool.and_true, Bool.true_and, Bool.and_false, Bool.false_and, and_true, true_and, and_self, Bool.not_not, hn]
  refine W.br_split (fun hb => ?_) (fun hb => ?_)
  · have hb : nameB s = false := by simpa using hb
    have : textR s = ([], 1) := by rw [textR, if_neg (by simp [hb])]
    rw [this] at hX
    simp only [go_sem, ↓reduceIte, Nat.reduceEqDiff, Nat.reduceAdd, reduceCtorEq, CCT, CCv, CCr, CCk, Nat.reduceBNe, Nat.reduceLeDiff, Nat.reduceLT, beqI, bneI, List.length_map, decide_true, decide_false, Int.reduceEq, Int.reduceLT, Int.reduceLE, Int.reduceGE, Int.reduceGT, not_true_eq_false, not_false_eq_true, Bool.and_true, Bool.true_and, Bool.and_false, Bool.false_and, and_true, true_and, and_self, Bool.not_not, hb]
    exact hX
  · have hb : nameB s = true := by simpa using hb
    have : textR s = (textL s, 0) := by rw [textR, if_pos hb]
    have hlen := textR_len s
    rw [this] at hX hlen
    dsimp only at hlen
    have hsz : 0 < s.size ∧ s.size ≤ 16 := by simp [nameB] at hb; omega
    have e1 : IntKind.u64.wrap (s.size : Int) = (s.size : Nat) := by rw [IntKind.wrap_u64]; omega
    simp only [go_sem, ↓reduceIte, Nat.reduceEqDiff, Nat.reduceAdd, reduceCtorEq, CCT, CCv, CCr, CCk, Nat.reduceBNe, Nat.reduceLeDiff, Nat.reduceLT, beqI, bneI, List.length_map, decide_true, decide_false, Int.reduceEq, Int.reduceLT, Int.reduceLE, Int.reduceGE, Int.reduceGT, not_true_eq_false, not_false_eq_true, Bool.and_true, Bool.true_and, Bool.and_false, Bool.false_and, and_true, true_and, and_self, Bool.not_not, hb, e1]
    refine call31 (by omega) rfl ?_
    intro v σ kk hg hσ
    simp only [go_sem, ↓reduceIte, Nat.reduceEqDiff, Nat.reduceAdd, reduceCtorEq, CCT, CCv, CCr, CCk, Nat.reduceBNe, Nat.reduceLeDiff, Nat.reduceLT, beqI, bneI, List.length_map, decide_true, decide_false, Int.reduceEq, Int.reduceLT, Int.reduceLE, Int.reduceGE, Int.reduceGT, not_true_eq_false, not_false_eq_true, Bool.and_true, Bool.true_and, Bool.and_false, Bool.false_and, and_true, true_and, and_self, Bool.not_not, hb, e1]
    have hq : bytesI (numL s.size) ++ bytesI (strI s) = bytesI (textL s) := by simp [bytesI, textL]
    refine gfx (T := T) (t := 43) (ys := bytesI (strI s)) hg (by simp [bytesI, numL_ne]) rfl ?_ ?_ ?_
    · simp only [go_sem, ↓reduceIte, Nat.reduceEqDiff, Nat.reduceAdd, reduceCtorEq, CCT, CCv, CCr, CCk, Nat.reduceBNe, Nat.reduceLeDiff, Nat.reduceLT, beqI, bneI, List.length_map, decide_true, decide_false, Int.reduceEq, Int.reduceLT, Int.reduceLE, Int.reduceGE, Int.reduceGT, not_true_eq_false, not_false_eq_true, Bool.and_true, Bool.true_and, Bool.and_false, Bool.false_and, and_true, true_and, and_self, Bool.not_not, *]
      rw [bytes_strI]
    · refine roomy_of ?_ (by decide)
      have := congrArg List.length hq
      simp only [bytesI, List.length_map, List.length_append] at this ⊢
      omega
    simp only [go_sem, ↓reduceIte, Nat.reduceEqDiff, Nat.reduceAdd, reduceCtorEq, CCT, CCv, CCr, CCk, Nat.reduceBNe, Nat.reduceLeDiff, Nat.reduceLT, beqI, bneI, List.length_map, decide_true, decide_false, Int.reduceEq, Int.reduceLT, Int.reduceLE, Int.reduceGE, Int.reduceGT, not_true_eq_false, not_false_eq_true, Bool.and_true, Bool.true_and, Bool.and_false, Bool.false_and, and_true, true_and, and_self, Bool.not_not, hb, e1, hq]
    have hne : bytesI (textL s) ≠ [] := by rw [← hq]; simp [bytesI, numL_ne]
    rw [← hX]
    simp [growR, hne, valSt, valSt1, Wp]
theorem refInts_c (d : Nat) (b : Bool) (xs : List Int) : evalF Try.prog CC (d + 6) 33 [.list 3 b (intsA xs) none] St.empty = some (.tup [growR 5 (bytesI (intsR xs).1), .int .i64 (intsR xs).2], valSt (growR 5 (bytesI (intsR xs).1))) ∨ xs = [] := by
  by_cases hxs : xs = []
  · exact .inr hxs
  left
  generalize hX : some ((.tup [growR 5 (bytesI (intsR xs).1), .int .i64 (intsR xs).2], valSt (growR 5 (bytesI (intsR xs).1))) : AV × St) = X
  have hil : (intsA xs).length = xs.length := by simp [intsA]
  refine wp_eq ?_
  rw [run_33 _ _ _ (by simp)]; unfold Try.f33; simp only [Option.getD_some]
  simp only [go_sem, ↓reduceIte, Nat.reduceEqDiff, Nat.reduceAdd, reduceCtorEq, CCT, CCv, CCr, CCk, Nat.reduceBNe, Nat.reduceLeDiff, Nat.reduceLT, beqI, bneI, List.length_map, decide_true, decide_false, Int.reduceEq, Int.reduceLT, Int.reduceLE, Int.reduceGE, Int.reduceGT, not_true_eq_false, not_false_eq_true, Bool.and_true, Bool.true_and, Bool.and_false, Bool.false_and, and_true, true_and, and_self, Bool.not_not, hil]
  refine W.br_dec (fun h1000 => ?_) (fun h1000 => ?_)
  · have : intsR xs = ([], 11) := by rw [intsR, if_pos (by omega)]
    rw [this] at hX
    simp only [go_sem, ↓reduceIte, Nat.reduceEqDiff, Nat.reduceAdd, reduceCtorEq, CCT, CCv, CCr, CCk, Nat.reduceBNe, Nat.reduceLeDiff, Nat.reduceLT, beqI, bneI, List.length_map, decide_true, decide_false, Int.reduceEq, Int.reduceLT, Int.reduceLE, Int.reduceGE, Int.reduceGT, not_true_eq_false, not_false_eq_true, Bool.and_true, Bool.true_and, Bool.and_false, Bool.false_and, and_true, true_and, and_self, Bool.not_not, h1000, hil]
    exact hX
  have hw : IntKind.u64.wrap (xs.length : Int) = (xs.length : Nat) := by rw [IntKind.wrap_u64]; omega
  have hlen : (numL xs.length).length ≤ 2 := numL_len 1 _ (by omega)
  simp only [go_sem, ↓reduceIte, Nat.reduceEqDiff, Nat.reduceAdd, reduceCtorEq, CCT, CCv, CCr, CCk, Nat.reduceBNe, Nat.reduceLeDiff, Nat.reduceLT, beqI, bneI, List.length_map, decide_true, decide_false, Int.reduceEq, Int.reduceLT, Int.reduceLE, Int.reduceGE, Int.reduceGT, not_true_eq_false, not_false_eq_true, Bool.and_true, Bool.true_and, Bool.and_false, Bool.false_and, and_true, true_and, and_self, Bool.not_not, h1000, hil, hw]
  refine call31 (by omega) rfl ?_
  intro v σ kk hg hσ
  simp only [go_sem, ↓reduceIte, Nat.reduceEqDiff, Nat.reduceAdd, reduceCtorEq, CCT, CCv, CCr, CCk, Nat.reduceBNe, Nat.reduceLeDiff, Nat.reduceLT, beqI, bneI, List.length_map, decide_true, decide_false, Int.reduceEq, Int.reduceLT, Int.reduceLE, Int.reduceGE, Int.reduceGT, not_true_eq_false, not_false_eq_true, Bool.and_true, Bool.true_and, Bool.and_false, Bool.false_and, and_true, true_and, and_self, Bool.not_not, h1000, hil, hw]
  clear hσ
  refine W.iter_rule (fun i ρ σ => ρ 0 = .list 3 b (intsA xs) none ∧ ρ 5 = .int .i64 i ∧ (∀ x ∈ xs.take i, intOk x = true) ∧ ∃ kk, Gf 5 (bytesI (numL xs.length ++ intsB (xs.take i))) σ (ρ 4) kk ∧ (0 < i → Gw 5 (bytesI (numL xs.length ++ intsB (xs.take i))) σ (ρ 4) kk)) xs.length ?_ ?_ _ 0 _ _ (Nat.zero_le _) ?_ ?_
  · clear hg
    rintro i ρ σ hi ⟨h0, h5, hall, kk, hg, _⟩ K hK hx hr
    have hlt : (i : Int) < (xs.length : Int) := by omega
    have hwrap : IntKind.i64.wrap ((i : Int) + 1) = ((i + 1 : Nat) : Int) := by rw [IntKind.wrap_i64]; omega
    have hidx : idxOk (i : Int) xs.length = true := by simp [idxOk]; omega
    have hget : (intsA xs)[((i : Nat) : Int).toNat]? = some (.int .i64 xs[i]) := by simp [intsA, hi]
    have hsn : xs.take (i + 1) = xs.take i ++ [xs[i]] := List.take_succ_eq_append_getElem hi
    have hmem := List.getElem_mem hi
    have hbl := intsB_len hall
    rw [List.length_take] at hbl
    generalize xs[i] = x at hget hsn hmem
    have hbad : intOk x = false → intsR xs = ([], 1) := by
      intro hb
      have : xs.all intOk = false := by rw [List.all_eq_false]; exact ⟨x, hmem, by simp [hb]⟩
      rw [intsR, if_neg (by omega), this]
      rfl
    by_cases hb0 : x < 0
    · rw [hbad (by simp [intOk]; omega)] at hX
      simp only [go_sem, ↓reduceIte, Nat.reduceEqDiff, Nat.reduceAdd, reduceCtorEq, CCT, CCv, CCr, CCk, Nat.reduceBNe, Nat.reduceLeDiff, Nat.reduceLT, beqI, bneI, List.length_map, decide_true, decide_false, Int.reduceEq, Int.reduceLT, Int.reduceLE, Int.reduceGE, Int.reduceGT, not_true_eq_false, not_false_eq_true, Bool.and_true, Bool.true_and, Bool.and_false, Bool.false_and, and_true, true_and, and_self, Bool.not_not, h0, h5, hlt, hil, hidx, hget, hb0, hr]
      exact hX
    by_cases hb1 : x > 2147483647
    · rw [hbad (by simp [intOk]; omega)] at hX
      simp only [go_sem, ↓reduceIte, Nat.reduceEqDiff, Nat.reduceAdd, reduceCtorEq, CCT, CCv, CCr, CCk, Nat.reduceBNe, Nat.reduceLeDiff, Nat.reduceLT, beqI, bneI, List.length_map, decide_true, decide_false, Int.reduceEq, Int.reduceLT, Int.reduceLE, Int.reduceGE, Int.reduceGT, not_true_eq_false, not_false_eq_true, Bool.and_true, Bool.true_and, Bool.and_false, Bool.false_and, and_true, true_and, and_self, Bool.not_not, h0, h5, hlt, hil, hidx, hget, hb0, hb1, hr]
      exact hX
    have e1 : IntKind.u64.wrap x = (x.toNat : Nat) := by rw [IntKind.wrap_u64]; omega
    have hl5 := numL_len 4 x.toNat (by omega)
    simp only [go_sem, ↓reduceIte, Nat.reduceEqDiff, Nat.reduceAdd, reduceCtorEq, CCT, CCv, CCr, CCk, Nat.reduceBNe, Nat.reduceLeDiff, Nat.reduceLT, beqI, bneI, List.length_map, decide_true, decide_false, Int.reduceEq, Int.reduceLT, Int.reduceLE, Int.reduceGE, Int.reduceGT, not_true_eq_false, not_false_eq_true, Bool.and_true, Bool.true_and, Bool.and_false, Bool.false_and, and_true, true_and, and_self, Bool.not_not, h0, h5, hlt, hil, hidx, hget, hb0, hb1, e1]
    refine call31 (by omega) rfl ?_
    intro v' σ' kk' hg' hσ'
    have hg2 := hg.call hσ'
    obtain ⟨tt, rfl⟩ := hg'.list (by simp [bytesI, numL_ne])
    simp only [go_sem, ↓reduceIte, Nat.reduceEqDiff, Nat.reduceAdd, reduceCtorEq, CCT, CCv, CCr, CCk, Nat.reduceBNe, Nat.reduceLeDiff, Nat.reduceLT, beqI, bneI, List.length_map, decide_true, decide_false, Int.reduceEq, Int.reduceLT, Int.reduceLE, Int.reduceGE, Int.reduceGT, not_true_eq_false, not_false_eq_true, Bool.and_true, Bool.true_and, Bool.and_false, Bool.false_and, and_true, true_and, and_self, Bool.not_not, h0, h5, hlt, hil, hidx, hget, hb0, hb1, e1]
    refine gfx (T := T) (t := 43) (ys := bytesI (numL x.toNat)) hg2 (by simp [bytesI, numL_ne]) rfl ?_ ?_ ?_
    · rfl
    · refine roomy_of ?_ (by decide)
      simp only [bytesI, List.length_map, List.length_append]
      omega
    simp only [go_sem, ↓reduceIte, Nat.reduceEqDiff, Nat.reduceAdd, reduceCtorEq, CCT, CCv, CCr, CCk, Nat.reduceBNe, Nat.reduceLeDiff, Nat.reduceLT, beqI, bneI, List.length_map, decide_true, decide_false, Int.reduceEq, Int.reduceLT, Int.reduceLE, Int.reduceGE, Int.reduceGT, not_true_eq_false, not_false_eq_true, Bool.and_true, Bool.true_and, Bool.and_false, Bool.false_and, and_true, true_and, and_self, Bool.not_not, h0, h5, hlt, hil, hidx, hget, hb0, hb1, e1, hwrap]
    refine hK _ _ ?_
    have hq : bytesI (numL xs.length ++ intsB (xs.take (i + 1))) = bytesI (numL xs.length ++ intsB (xs.take i)) ++ bytesI (numL x.toNat) := by
      rw [hsn, intsB_snoc]; simp [bytesI]
    have hnew : Gw 5 (bytesI (numL xs.length ++ intsB (xs.take (i + 1)))) (σ'.tokNew kk) (.list 5 false (bytesI (numL xs.length ++ intsB (xs.take i)) ++ bytesI (numL x.toNat)) (some (σ'.ntok + 1))) (some σ'.ntok) := by
      rw [hq]
      exact .new (by simp [bytesI, numL_ne])
    refine ⟨by (try simp only [go_sem, ↓reduceIte, Nat.reduceEqDiff, Nat.reduceAdd, reduceCtorEq, CCT, CCv, CCr, CCk, Nat.reduceBNe, Nat.reduceLeDiff, Nat.reduceLT, beqI, bneI, List.length_map, decide_true, decide_false, Int.reduceEq, Int.reduceLT, Int.reduceLE, Int.reduceGE, Int.reduceGT, not_true_eq_false, not_false_eq_true, Bool.and_true, Bool.true_and, Bool.and_false, Bool.false_and, and_true, true_and, and_self, Bool.not_not, Int.toNat_natCast, List.length_take, *]) <;> (first | done | rfl | omega | (simp; done) | (simp; omega)), by (try simp only [go_sem, ↓reduceIte, Nat.reduceEqDiff, Nat.reduceAdd, reduceCtorEq, CCT, CCv, CCr, CCk, Nat.reduceBNe, Nat.reduceLeDiff, Nat.reduceLT, beqI, bneI, List.length_map, decide_true, decide_false, Int.reduceEq, Int.reduceLT, Int.reduceLE, Int.reduceGE, Int.reduceGT, not_true_eq_false, not_false_eq_true, Bool.and_true, Bool.true_and, Bool.and_false, Bool.false_and, and_true, true_and, and_self, Bool.not_not, Int.toNat_natCast, List.length_take, *]) <;> (first | done | rfl | omega | (simp; done) | (simp; omega)), ?_, some σ'.ntok, ?_, fun _ => ?_⟩
    · intro y hy
      rw [hsn, List.mem_append, List.mem_singleton] at hy
      rcases hy with hy | rfl
      · exact hall y hy
      · simp [intOk]; omega
    · simp only [go_sem, ↓reduceIte, Nat.reduceEqDiff, Nat.reduceAdd, reduceCtorEq, CCT, CCv, CCr, CCk, Nat.reduceBNe, Nat.reduceLeDiff, Nat.reduceLT, beqI, bneI, List.length_map, decide_true, decide_false, Int.reduceEq, Int.reduceLT, Int.reduceLE, Int.reduceGE, Int.reduceGT, not_true_eq_false, not_false_eq_true, Bool.and_true, Bool.true_and, Bool.and_false, Bool.false_and, and_true, true_and, and_self, Bool.not_not, h0]
      exact .inl hnew
    · simp only [go_sem, ↓reduceIte, Nat.reduceEqDiff, Nat.reduceAdd, reduceCtorEq, CCT, CCv, CCr, CCk, Nat.reduceBNe, Nat.reduceLeDiff, Nat.reduceLT, beqI, bneI, List.length_map, decide_true, decide_false, Int.reduceEq, Int.reduceLT, Int.reduceLE, Int.reduceGE, Int.reduceGT, not_true_eq_false, not_false_eq_true, Bool.and_true, Bool.true_and, Bool.and_false, Bool.false_and, and_true, true_and, and_self, Bool.not_not, h0]
      exact hnew
  · rintro ρ σ ⟨h0, h5, hall, kk, _, hg⟩ K hx hr
    have hg := hg (List.length_pos_iff.2 hxs)
    rw [List.take_length] at hall hg
    have hlt : ¬ (xs.length : Int) < (xs.length : Int) := by omega
    have : intsR xs = (numL xs.length ++ intsB xs, 0) := by
      rw [intsR, if_neg (by omega), if_pos (List.all_eq_true.2 hall)]
    rw [this] at hX
    simp only [go_sem, ↓reduceIte, Nat.reduceEqDiff, Nat.reduceAdd, reduceCtorEq, CCT, CCv, CCr, CCk, Nat.reduceBNe, Nat.reduceLeDiff, Nat.reduceLT, beqI, bneI, List.length_map, decide_true, decide_false, Int.reduceEq, Int.reduceLT, Int.reduceLE, Int.reduceGE, Int.reduceGT, not_true_eq_false, not_false_eq_true, Bool.and_true, Bool.true_and, Bool.and_false, Bool.false_and, and_true, true_and, and_self, Bool.not_not, hx, h0, h5, hlt, hil, gw_comp hg]
    refine W.gw_ret_tup (vs := [.int .i64 0]) (us := [.int .i64 0]) hg rfl ?_
    rw [valSt_grow]
    exact hX
  · show xs.length < 0 + 9223372036854775900
    omega
  · refine ⟨by (try simp only [go_sem, ↓reduceIte, Nat.reduceEqDiff, Nat.reduceAdd, reduceCtorEq, CCT, CCv, CCr, CCk, Nat.reduceBNe, Nat.reduceLeDiff, Nat.reduceLT, beqI, bneI, List.length_map, decide_true, decide_false, Int.reduceEq, Int.reduceLT, Int.reduceLE, Int.reduceGE, Int.reduceGT, not_true_eq_false, not_false_eq_true, Bool.and_true, Bool.true_and, Bool.and_false, Bool.false_and, and_true, true_and, and_self, Bool.not_not, Int.toNat_natCast, List.length_take, *]) <;> (first | done | rfl | omega | (simp; done) | (simp; omega)), by (try simp only [go_sem, ↓reduceIte, Nat.reduceEqDiff, Nat.reduceAdd, reduceCtorEq, CCT, CCv, CCr, CCk, Nat.reduceBNe, Nat.reduceLeDiff, Nat.reduceLT, beqI, bneI, List.length_map, decide_true, decide_false, Int.reduceEq, Int.reduceLT, Int.reduceLE, Int.reduceGE, Int.reduceGT, not_true_eq_false, not_false_eq_true, Bool.and_true, Bool.true_and, Bool.and_false, Bool.false_and, and_true, true_and, and_self, Bool.not_not, Int.toNat_natCast, List.length_take, *]) <;> (first | done | rfl | omega | (simp; done) | (simp; omega)), by simp, kk, ?_, fun h => absurd h (Nat.lt_irrefl _)⟩
    simp only [go_sem, ↓reduceIte, Nat.reduceEqDiff, Nat.reduceAdd, reduceCtorEq, CCT, CCv, CCr, CCk, Nat.reduceBNe, Nat.reduceLeDiff, Nat.reduceLT, beqI, bneI, List.length_map, decide_true, decide_false, Int.reduceEq, Int.reduceLT, Int.reduceLE, Int.reduceGE, Int.reduceGT, not_true_eq_false, not_false_eq_true, Bool.and_true, Bool.true_and, Bool.and_false, Bool.false_and, and_true, true_and, and_self, Bool.not_not, hil]
    simpa [intsB] using hg
end Go.Proofs.Ytjembadjfiohpaa.Va

/- chapter 5: TypesBytes -/
namespace Go.Proofs.Ytjembadjfiohpaa.Va
open Go
set_option linter.unusedVariables false
set_option linter.unusedSimpArgs false
set_option maxRecDepth 100000
def fldI (f : Fld) : List Int := [f.kind, f.len, f.type, f.link, f.key]
def flagI (v r : Bool) : Int := (if v then 1 else 0) + (if r then 2 else 0)
def typeI (t : Typ) : List Int := flagI t.value t.refs :: t.fields.flatMap fldI
def typeB (t : Typ) : List Int := (textR t.name).1 ++ (intsR (typeI t)).1
noncomputable def bytesS (l : List Typ) : List Int × Int := if (checkAll l).2 = 0 then (numL l.length ++ l.flatMap typeB, 0) else ([], (checkAll l).2)
theorem fldI_len : ∀ (l : List Fld), (l.flatMap fldI).length = 5 * l.length
  | [] => rfl
  | f :: l => by simp only [List.flatMap_cons, List.length_append, fldI_len l, List.length_cons]; simp [fldI]; omega
theorem intsR_len (xs : List Int) : (intsR xs).1.length ≤ 5010 := by
  unfold intsR
  split
  · simp
  · split
    · rename_i h1 h2
      have h3 := intsB_len (l := xs) (List.all_eq_true.1 h2)
      have h4 := numL_len 1 xs.length (by omega)
      simp only [List.length_append]
      omega
    · simp
theorem typeB_len (t : Typ) : (typeB t).length ≤ 5027 := by
  have h1 := textR_len t.name
  have h2 := intsR_len (typeI t)
  simp only [typeB, List.length_append]
  omega
theorem typesB_len : ∀ (l : List Typ), (l.flatMap typeB).length ≤ 5027 * l.length
  | [] => by simp
  | t :: l => by
    have h1 := typeB_len t
    have h2 := typesB_len l
    simp only [List.flatMap_cons, List.length_append, List.length_cons]
    omega
theorem bytesI_app (a b : List Int) : bytesI (a ++ b) = bytesI a ++ bytesI b := by simp [bytesI]
theorem bytesI_len (a : List Int) : (bytesI a).length = a.length := by simp [bytesI]
theorem bytesI_ne {a : List Int} (h : a ≠ []) : bytesI a ≠ [] := by simpa [bytesI] using h
theorem Bytes_c (d : Nat) (bl : Bool) (l : List Typ) (hl : l.length ≤ 9223372036854775807) : evalF Try.prog CC (d + 60) 17 [encTs bl l] St.empty = some (.tup [growR 5 (bytesI (bytesS l).1), .int .i64 (bytesS l).2], valSt (growR 5 (bytesI (bytesS l).1))) := by
  generalize hX : some ((.tup [growR 5 (bytesI (bytesS l).1), .int .i64 (bytesS l).2], valSt (growR 5 (bytesI (bytesS l).1))) : AV × St) = X
  have h1 := fun d => Check_c d bl l hl
  simp only [encTs, resC] at h1
  refine wp_eq ?_
  rw [run_17 _ _ _ (by simp)]; unfold Try.f17; simp only [Option.getD_some]
  simp only [encTs]
  simp only [go_sem, ↓reduceIte, Nat.reduceEqDiff, Nat.reduceAdd, reduceCtorEq, CCT, CCv, CCr, CCk, Nat.reduceBNe, Nat.reduceLeDiff, Nat.reduceLT, beqI, bneI, List.length_map, decide_true, decide_false, Int.reduceEq, Int.reduceLT, Int.reduceLE, Int.reduceGE, Int.reduceGT, not_true_eq_false, not_false_eq_true, Bool.and_true, Bool.true_and, Bool.and_false, Bool.false_and, and_true, true_and, and_self, Bool.not_not, h1]
  refine W.br_ndec (fun he => ?_) (fun he => ?_)
  · have : bytesS l = ([], (checkAll l).2) := by rw [bytesS, if_neg he]
    rw [this] at hX
    simp only [go_sem, ↓reduceIte, Nat.reduceEqDiff, Nat.reduceAdd, reduceCtorEq, CCT, CCv, CCr, CCk, Nat.reduceBNe, Nat.reduceLeDiff, Nat.reduceLT, beqI, bneI, List.length_map, decide_true, decide_false, Int.reduceEq, Int.reduceLT, Int.reduceLE, Int.reduceGE, Int.reduceGT, not_true_eq_false, not_false_eq_true, Bool.and_true, Bool.true_and, Bool.and_false, Bool.false_and, and_true, true_and, and_self, Bool.not_not, h1, he]
    exact hX
  have hS : bytesS l = (numL l.length ++ l.flatMap typeB, 0) := by rw [bytesS, if_pos he]
  rw [hS] at hX
  obtain ⟨hlen, hok⟩ := checkAll_ok he
  have hw : IntKind.u64.wrap (l.length : Int) = (l.length : Nat) := by rw [IntKind.wrap_u64]; omega
  have hnl : (numL l.length).length ≤ 1 := numL_len 0 _ (by omega)
  simp only [go_sem, ↓reduceIte, Nat.reduceEqDiff, Nat.reduceAdd, reduceCtorEq, CCT, CCv, CCr, CCk, Nat.reduceBNe, Nat.reduceLeDiff, Nat.reduceLT, beqI, bneI, List.length_map, decide_true, decide_false, Int.reduceEq, Int.reduceLT, Int.reduceLE, Int.reduceGE, Int.reduceGT, not_true_eq_false, not_false_eq_true, Bool.and_true, Bool.true_and, Bool.and_false, Bool.false_and, and_true, true_and, and_self, Bool.not_not, h1, he, hw]
  refine W.call_gw (Number_c (d + 58) l.length (by omega)) rfl ?_
  intro v0 σ0 k0 hg0 hσ0
  simp only [go_sem, ↓reduceIte, Nat.reduceEqDiff, Nat.reduceAdd, reduceCtorEq, CCT, CCv, CCr, CCk, Nat.reduceBNe, Nat.reduceLeDiff, Nat.reduceLT, beqI, bneI, List.length_map, decide_true, decide_false, Int.reduceEq, Int.reduceLT, Int.reduceLE, Int.reduceGE, Int.reduceGT, not_true_eq_false, not_false_eq_true, Bool.and_true, Bool.true_and, Bool.and_false, Bool.false_and, and_true, true_and, and_self, Bool.not_not, h1, he, hw]
  clear hσ0
  refine W.iter_rule (fun i ρ σ => ρ 29 = .list 32 bl (l.map encTy) none ∧ ρ 30 = .int .i64 l.length ∧ ρ 31 = .int .i64 i ∧ ∃ kk, Gw 5 (bytesI (numL l.length ++ (l.take i).flatMap typeB)) σ (ρ 6) kk) l.length ?_ ?_ _ 0 _ _ (Nat.zero_le _) ?_ ?_
  · clear hg0
    rintro i ρ σ hi ⟨h29, h30, h31, kk, hg⟩ K hK hx hr
    have hlt : (i : Int) < (l.length : Int) := by omega
    have hwrap : IntKind.i64.wrap ((i : Int) + 1) = ((i + 1 : Nat) : Int) := by rw [IntKind.wrap_i64]; omega
    obtain ⟨c1, c2, _, _⟩ := checkS_ok hi (hok i hi)
    have hat := at0_nat hi
    have hsn : l.take (i + 1) = l.take i ++ [l[i]] := List.take_succ_eq_append_getElem hi
    have htl := typesB_len (l.take i)
    rw [List.length_take] at htl
    generalize l[i] = t at hat hsn
    rw [hat] at c1 c2
    generalize hv6 : ρ 6 = v6 at hg
    have hne6 : bytesI (numL l.length ++ (l.take i).flatMap typeB) ≠ [] := by simp [bytesI, numL_ne]
    simp only [go_sem, ↓reduceIte, Nat.reduceEqDiff, Nat.reduceAdd, reduceCtorEq, CCT, CCv, CCr, CCk, Nat.reduceBNe, Nat.reduceLeDiff, Nat.reduceLT, beqI, bneI, List.length_map, decide_true, decide_false, Int.reduceEq, Int.reduceLT, Int.reduceLE, Int.reduceGE, Int.reduceGT, not_true_eq_false, not_false_eq_true, Bool.and_true, Bool.true_and, Bool.and_false, Bool.false_and, and_true, true_and, and_self, Bool.not_not, h29, h30, h31, hv6, hlt]
    refine W.idx_at (by omega) (by omega) ?_
    rw [hat]
    obtain ⟨name, tv, tr, tb, fs⟩ := t
    have hfs : fs.length ≤ 12 := by first | exact c1 | exact c2
    simp only [go_sem, ↓reduceIte, Nat.reduceEqDiff, Nat.reduceAdd, reduceCtorEq, CCT, CCv, CCr, CCk, Nat.reduceBNe, Nat.reduceLeDiff, Nat.reduceLT, beqI, bneI, List.length_map, decide_true, decide_false, Int.reduceEq, Int.reduceLT, Int.reduceLE, Int.reduceGE, Int.reduceGT, not_true_eq_false, not_false_eq_true, Bool.and_true, Bool.true_and, Bool.and_false, Bool.false_and, and_true, true_and, and_self, Bool.not_not, encTy, h29, h30, h31, hv6]
    refine W.call_gw_tup (Text_r (d + 57) name) rfl rfl ?_
    intro v1 σ1 k1 hg1 hσ1
    have hg6 : Gw 5 _ σ1 v6 kk := Gw.call (Gw.same hg (by intro; rfl) (by rfl)) hσ1
    have hob1 : σ1.obj σ.next = some (.cells 32 [encTy ⟨name, tv, tr, tb, fs⟩]) := by
      rcases hσ1 with ⟨rfl, _⟩ | ⟨rfl, _⟩ <;> simp only [go_sem, ↓reduceIte, Nat.reduceEqDiff, Nat.reduceAdd, reduceCtorEq, CCT, CCv, CCr, CCk, Nat.reduceBNe, Nat.reduceLeDiff, Nat.reduceLT, beqI, bneI, List.length_map, decide_true, decide_false, Int.reduceEq, Int.reduceLT, Int.reduceLE, Int.reduceGE, Int.reduceGT, not_true_eq_false, not_false_eq_true, Bool.and_true, Bool.true_and, Bool.and_false, Bool.false_and, and_true, true_and, and_self, Bool.not_not, *]
    simp only [encTy] at hob1
    clear hσ1
    obtain ⟨fl, hfl⟩ : ∃ fl, fl = flagI tv tr := ⟨_, rfl⟩
    have hnext : bytesI (numL l.length ++ (l.take (i + 1)).flatMap typeB) = bytesI (numL l.length ++ (l.take i).flatMap typeB) ++ bytesI (textR name).1 ++ bytesI (intsR (fl :: fs.flatMap fldI)).1 := by
      rw [hsn, hfl]; simp [typeB, typeI, bytesI]
    have ht17 := textR_len name
    have hi50 := intsR_len (fl :: fs.flatMap fldI)
    clear hat hsn
    cases tv <;> cases tr
    all_goals
      simp only [flagI, if_true, if_false, Int.zero_add, Int.add_zero, Int.reduceAdd, Bool.false_eq_true] at hfl
      simp only [go_sem, ↓reduceIte, Nat.reduceEqDiff, Nat.reduceAdd, reduceCtorEq, CCT, CCv, CCr, CCk, Nat.reduceBNe, Nat.reduceLeDiff, Nat.reduceLT, beqI, bneI, List.length_map, decide_true, decide_false, Int.reduceEq, Int.reduceLT, Int.reduceLE, Int.reduceGE, Int.reduceGT, not_true_eq_false, not_false_eq_true, Bool.and_true, Bool.true_and, Bool.and_false, Bool.false_and, and_true, true_and, and_self, Bool.not_not, hob1, h29, h30, h31, hv6]
      refine W.iter_rule (fun j ρ s => ρ 29 = .list 32 bl (l.map encTy) none ∧ ρ 30 = .int .i64 l.length ∧ ρ 31 = .int .i64 i ∧ ρ 6 = v6 ∧ ρ 9 = v1 ∧ ρ 52 = .list 41 tb (fs.map encF) none ∧ ρ 53 = .int .i64 fs.length ∧ ρ 54 = .int .i64 j ∧ Gw 5 (bytesI (numL l.length ++ (l.take i).flatMap typeB)) s v6 kk ∧ ∃ k3, Gf 3 (intsA (fl :: (fs.take j).flatMap fldI)) s (ρ 12) k3 ∧ (k3 = none ∨ k3 ≠ kk)) fs.length ?_ ?_ _ 0 _ _ (Nat.zero_le _) ?_ ?_
      · clear hx hr hg6 hob1
        rintro j ρ s hj ⟨h29, h30, h31, h6, h9, h52, h53, h54, hg6, k3, hg3, hk3⟩ K2 hK2 hx hr
        have hlt2 : (j : Int) < (fs.length : Int) := by omega
        have hwrap2 : IntKind.i64.wrap ((j : Int) + 1) = ((j + 1 : Nat) : Int) := by rw [IntKind.wrap_i64]; omega
        have hat := at0_nat hj
        have hsn : fs.take (j + 1) = fs.take j ++ [fs[j]] := List.take_succ_eq_append_getElem hj
        have hfl5 := fldI_len (fs.take j)
        rw [List.length_take] at hfl5
        generalize fs[j] = f at hat hsn
        generalize hv12 : ρ 12 = v12 at hg3
        simp only [go_sem, ↓reduceIte, Nat.reduceEqDiff, Nat.reduceAdd, reduceCtorEq, CCT, CCv, CCr, CCk, Nat.reduceBNe, Nat.reduceLeDiff, Nat.reduceLT, beqI, bneI, List.length_map, decide_true, decide_false, Int.reduceEq, Int.reduceLT, Int.reduceLE, Int.reduceGE, Int.reduceGT, not_true_eq_false, not_false_eq_true, Bool.and_true, Bool.true_and, Bool.and_false, Bool.false_and, and_true, true_and, and_self, Bool.not_not, h29, h30, h31, h6, h9, h52, h53, h54, hv12, hlt2]
        refine W.idx_at (by omega) (by omega) ?_
        rw [hat]
        simp only [go_sem, ↓reduceIte, Nat.reduceEqDiff, Nat.reduceAdd, reduceCtorEq, CCT, CCv, CCr, CCk, Nat.reduceBNe, Nat.reduceLeDiff, Nat.reduceLT, beqI, bneI, List.length_map, decide_true, decide_false, Int.reduceEq, Int.reduceLT, Int.reduceLE, Int.reduceGE, Int.reduceGT, not_true_eq_false, not_false_eq_true, Bool.and_true, Bool.true_and, Bool.and_false, Bool.false_and, and_true, true_and, and_self, Bool.not_not, encF, h29, h30, h31, h6, h9, h52, h53, h54, hv12]
        refine gfx (T := T) (t := 33) (ys := intsA (fldI f)) (Gf.same hg3 (by intro; rfl) (by rfl)) (by simp [intsA]) rfl ?_ ?_ ?_
        · rfl
        · refine roomy_of ?_ (by decide)
          simp only [intsA, List.length_map, List.length_cons, hfl5]
          show _ + 5 ≤ _
          omega
        simp only [go_sem, ↓reduceIte, Nat.reduceEqDiff, Nat.reduceAdd, reduceCtorEq, CCT, CCv, CCr, CCk, Nat.reduceBNe, Nat.reduceLeDiff, Nat.reduceLT, beqI, bneI, List.length_map, decide_true, decide_false, Int.reduceEq, Int.reduceLT, Int.reduceLE, Int.reduceGE, Int.reduceGT, not_true_eq_false, not_false_eq_true, Bool.and_true, Bool.true_and, Bool.and_false, Bool.false_and, and_true, true_and, and_self, Bool.not_not, h29, h30, h31, h6, h9, h52, h53, h54, hwrap2]
        refine hK2 _ _ ?_
        have hq : intsA (fl :: (fs.take (j + 1)).flatMap fldI) = intsA (fl :: (fs.take j).flatMap fldI) ++ intsA (fldI f) := by
          rw [hsn]; simp [intsA]
        refine ⟨by (try simp only [go_sem, ↓reduceIte, Nat.reduceEqDiff, Nat.reduceAdd, reduceCtorEq, CCT, CCv, CCr, CCk, Nat.reduceBNe, Nat.reduceLeDiff, Nat.reduceLT, beqI, bneI, List.length_map, decide_true, decide_false, Int.reduceEq, Int.reduceLT, Int.reduceLE, Int.reduceGE, Int.reduceGT, not_true_eq_false, not_false_eq_true, Bool.and_true, Bool.true_and, Bool.and_false, Bool.false_and, and_true, true_and, and_self, Bool.not_not, Int.toNat_natCast, List.length_take, *]) <;> (first | done | rfl | omega | (simp; done) | (simp; omega)), by (try simp only [go_sem, ↓reduceIte, Nat.reduceEqDiff, Nat.reduceAdd, reduceCtorEq, CCT, CCv, CCr, CCk, Nat.reduceBNe, Nat.reduceLeDiff, Nat.reduceLT, beqI, bneI, List.length_map, decide_true, decide_false, Int.reduceEq, Int.reduceLT, Int.reduceLE, Int.reduceGE, Int.reduceGT, not_true_eq_false, not_false_eq_true, Bool.and_true, Bool.true_and, Bool.and_false, Bool.false_and, and_true, true_and, and_self, Bool.not_not, Int.toNat_natCast, List.length_take, *]) <;> (first | done | rfl | omega | (simp; done) | (simp; omega)), by (try simp only [go_sem, ↓reduceIte, Nat.reduceEqDiff, Nat.reduceAdd, reduceCtorEq, CCT, CCv, CCr, CCk, Nat.reduceBNe, Nat.reduceLeDiff, Nat.reduceLT, beqI, bneI, List.length_map, decide_true, decide_false, Int.reduceEq, Int.reduceLT, Int.reduceLE, Int.reduceGE, Int.reduceGT, not_true_eq_false, not_false_eq_true, Bool.and_true, Bool.true_and, Bool.and_false, Bool.false_and, and_true, true_and, and_self, Bool.not_not, Int.toNat_natCast, List.length_take, *]) <;> (first | done | rfl | omega | (simp; done) | (simp; omega)), by (try simp only [go_sem, ↓reduceIte, Nat.reduceEqDiff, Nat.reduceAdd, reduceCtorEq, CCT, CCv, CCr, CCk, Nat.reduceBNe, Nat.reduceLeDiff, Nat.reduceLT, beqI, bneI, List.length_map, decide_true, decide_false, Int.reduceEq, Int.reduceLT, Int.reduceLE, Int.reduceGE, Int.reduceGT, not_true_eq_false, not_false_eq_true, Bool.and_true, Bool.true_and, Bool.and_false, Bool.false_and, and_true, true_and, and_self, Bool.not_not, Int.toNat_natCast, List.length_take, *]) <;> (first | done | rfl | omega | (simp; done) | (simp; omega)), by (try simp only [go_sem, ↓reduceIte, Nat.reduceEqDiff, Nat.reduceAdd, reduceCtorEq, CCT, CCv, CCr, CCk, Nat.reduceBNe, Nat.reduceLeDiff, Nat.reduceLT, beqI, bneI, List.length_map, decide_true, decide_false, Int.reduceEq, Int.reduceLT, Int.reduceLE, Int.reduceGE, Int.reduceGT, not_true_eq_false, not_false_eq_true, Bool.and_true, Bool.true_and, Bool.and_false, Bool.false_and, and_true, true_and, and_self, Bool.not_not, Int.toNat_natCast, List.length_take, *]) <;> (first | done | rfl | omega | (simp; done) | (simp; omega)), by (try simp only [go_sem, ↓reduceIte, Nat.reduceEqDiff, Nat.reduceAdd, reduceCtorEq, CCT, CCv, CCr, CCk, Nat.reduceBNe, Nat.reduceLeDiff, Nat.reduceLT, beqI, bneI, List.length_map, decide_true, decide_false, Int.reduceEq, Int.reduceLT, Int.reduceLE, Int.reduceGE, Int.reduceGT, not_true_eq_false, not_false_eq_true, Bool.and_true, Bool.true_and, Bool.and_false, Bool.false_and, and_true, true_and, and_self, Bool.not_not, Int.toNat_natCast, List.length_take, *]) <;> (first | done | rfl | omega | (simp; done) | (simp; omega)), by (try simp only [go_sem, ↓reduceIte, Nat.reduceEqDiff, Nat.reduceAdd, reduceCtorEq, CCT, CCv, CCr, CCk, Nat.reduceBNe, Nat.reduceLeDiff, Nat.reduceLT, beqI, bneI, List.length_map, decide_true, decide_false, Int.reduceEq, Int.reduceLT, Int.reduceLE, Int.reduceGE, Int.reduceGT, not_true_eq_false, not_false_eq_true, Bool.and_true, Bool.true_and, Bool.and_false, Bool.false_and, and_true, true_and, and_self, Bool.not_not, Int.toNat_natCast, List.length_take, *]) <;> (first | done | rfl | omega | (simp; done) | (simp; omega)), by (try simp only [go_sem, ↓reduceIte, Nat.reduceEqDiff, Nat.reduceAdd, reduceCtorEq, CCT, CCv, CCr, CCk, Nat.reduceBNe, Nat.reduceLeDiff, Nat.reduceLT, beqI, bneI, List.length_map, decide_true, decide_false, Int.reduceEq, Int.reduceLT, Int.reduceLE, Int.reduceGE, Int.reduceGT, not_true_eq_false, not_false_eq_true, Bool.and_true, Bool.true_and, Bool.and_false, Bool.false_and, and_true, true_and, and_self, Bool.not_not, Int.toNat_natCast, List.length_take, *]) <;> (first | done | rfl | omega | (simp; done) | (simp; omega)), ?_, some s.ntok, ?_, ?_⟩
        · refine Gw.tokNew (Gw.same hg6 (by intro; rfl) (by rfl)) ?_
          rcases hk3 with rfl | h
          · exact tok_or
          · exact .inr h
        · rw [hq]
          simp only [go_sem, ↓reduceIte, Nat.reduceEqDiff, Nat.reduceAdd, reduceCtorEq, CCT, CCv, CCr, CCk, Nat.reduceBNe, Nat.reduceLeDiff, Nat.reduceLT, beqI, bneI, List.length_map, decide_true, decide_false, Int.reduceEq, Int.reduceLT, Int.reduceLE, Int.reduceGE, Int.reduceGT, not_true_eq_false, not_false_eq_true, Bool.and_true, Bool.true_and, Bool.and_false, Bool.false_and, and_true, true_and, and_self, Bool.not_not, *]
          exact .inl (.new (by simp [intsA]))
        · right
          intro h
          subst h
          exact absurd (Gw.lt hg6) (Nat.lt_irrefl _)
      · clear hx hr hg6 hob1
        rintro ρ s ⟨h29, h30, h31, h6, h9, h52, h53, h54, hg6, k3, hg3, hk3⟩ K2 hx hr
        have hlt2 : ¬ (fs.length : Int) < (fs.length : Int) := by omega
        rw [List.take_length] at hg3
        obtain ⟨tt, h12⟩ := hg3.list (by simp [intsA])
        subst h6
        subst h9
        simp only [go_sem, ↓reduceIte, Nat.reduceEqDiff, Nat.reduceAdd, reduceCtorEq, CCT, CCv, CCr, CCk, Nat.reduceBNe, Nat.reduceLeDiff, Nat.reduceLT, beqI, bneI, List.length_map, decide_true, decide_false, Int.reduceEq, Int.reduceLT, Int.reduceLE, Int.reduceGE, Int.reduceGT, not_true_eq_false, not_false_eq_true, Bool.and_true, Bool.true_and, Bool.and_false, Bool.false_and, and_true, true_and, and_self, Bool.not_not, hx, h29, h30, h31, h52, h53, h54, h12, hlt2]
        refine W.call_gw_tup (Ints_c (d + 57) false (fl :: fs.flatMap fldI)) rfl rfl ?_
        intro v2 σ2 k2 hg2 hσ2
        have hg6b := Gw.call hg6 hσ2
        simp only [go_sem, ↓reduceIte, Nat.reduceEqDiff, Nat.reduceAdd, reduceCtorEq, CCT, CCv, CCr, CCk, Nat.reduceBNe, Nat.reduceLeDiff, Nat.reduceLT, beqI, bneI, List.length_map, decide_true, decide_false, Int.reduceEq, Int.reduceLT, Int.reduceLE, Int.reduceGE, Int.reduceGT, not_true_eq_false, not_false_eq_true, Bool.and_true, Bool.true_and, Bool.and_false, Bool.false_and, and_true, true_and, and_self, Bool.not_not, hx, h29, h30, h31, h52, h53, h54, h12]
        refine gfx (T := T) (t := 43) (ys := bytesI (textR name).1) (.inl hg6b) hne6 rfl ?_ (roomy_of ?_ (by decide)) ?_
        · simp only [go_sem, ↓reduceIte, Nat.reduceEqDiff, Nat.reduceAdd, reduceCtorEq, CCT, CCv, CCr, CCk, Nat.reduceBNe, Nat.reduceLeDiff, Nat.reduceLT, beqI, bneI, List.length_map, decide_true, decide_false, Int.reduceEq, Int.reduceLT, Int.reduceLE, Int.reduceGE, Int.reduceGT, not_true_eq_false, not_false_eq_true, Bool.and_true, Bool.true_and, Bool.and_false, Bool.false_and, and_true, true_and, and_self, Bool.not_not, gw_news hg1]
        · simp only [bytesI, List.length_map, List.length_append]
          omega
        simp only [go_sem, ↓reduceIte, Nat.reduceEqDiff, Nat.reduceAdd, reduceCtorEq, CCT, CCv, CCr, CCk, Nat.reduceBNe, Nat.reduceLeDiff, Nat.reduceLT, beqI, bneI, List.length_map, decide_true, decide_false, Int.reduceEq, Int.reduceLT, Int.reduceLE, Int.reduceGE, Int.reduceGT, not_true_eq_false, not_false_eq_true, Bool.and_true, Bool.true_and, Bool.and_false, Bool.false_and, and_true, true_and, and_self, Bool.not_not, hx, h29, h30, h31, h52, h53, h54, h12, gw_news hg2]
        refine W.br_ok (roomy_of ?_ (by decide)) ?_
        · simp only [bytesI, List.length_map, List.length_append]
          omega
        simp only [go_sem, ↓reduceIte, Nat.reduceEqDiff, Nat.reduceAdd, reduceCtorEq, CCT, CCv, CCr, CCk, Nat.reduceBNe, Nat.reduceLeDiff, Nat.reduceLT, beqI, bneI, List.length_map, decide_true, decide_false, Int.reduceEq, Int.reduceLT, Int.reduceLE, Int.reduceGE, Int.reduceGT, not_true_eq_false, not_false_eq_true, Bool.and_true, Bool.true_and, Bool.and_false, Bool.false_and, and_true, true_and, and_self, Bool.not_not, hx, h29, h30, h31, h52, h53, h54, h12, gw_news hg2, hwrap]
        refine hK _ _ ?_
        refine ⟨by (try simp only [go_sem, ↓reduceIte, Nat.reduceEqDiff, Nat.reduceAdd, reduceCtorEq, CCT, CCv, CCr, CCk, Nat.reduceBNe, Nat.reduceLeDiff, Nat.reduceLT, beqI, bneI, List.length_map, decide_true, decide_false, Int.reduceEq, Int.reduceLT, Int.reduceLE, Int.reduceGE, Int.reduceGT, not_true_eq_false, not_false_eq_true, Bool.and_true, Bool.true_and, Bool.and_false, Bool.false_and, and_true, true_and, and_self, Bool.not_not, Int.toNat_natCast, List.length_take, *]) <;> (first | done | rfl | omega | (simp; done) | (simp; omega)), by (try simp only [go_sem, ↓reduceIte, Nat.reduceEqDiff, Nat.reduceAdd, reduceCtorEq, CCT, CCv, CCr, CCk, Nat.reduceBNe, Nat.reduceLeDiff, Nat.reduceLT, beqI, bneI, List.length_map, decide_true, decide_false, Int.reduceEq, Int.reduceLT, Int.reduceLE, Int.reduceGE, Int.reduceGT, not_true_eq_false, not_false_eq_true, Bool.and_true, Bool.true_and, Bool.and_false, Bool.false_and, and_true, true_and, and_self, Bool.not_not, Int.toNat_natCast, List.length_take, *]) <;> (first | done | rfl | omega | (simp; done) | (simp; omega)), by (try simp only [go_sem, ↓reduceIte, Nat.reduceEqDiff, Nat.reduceAdd, reduceCtorEq, CCT, CCv, CCr, CCk, Nat.reduceBNe, Nat.reduceLeDiff, Nat.reduceLT, beqI, bneI, List.length_map, decide_true, decide_false, Int.reduceEq, Int.reduceLT, Int.reduceLE, Int.reduceGE, Int.reduceGT, not_true_eq_false, not_false_eq_true, Bool.and_true, Bool.true_and, Bool.and_false, Bool.false_and, and_true, true_and, and_self, Bool.not_not, Int.toNat_natCast, List.length_take, *]) <;> (first | done | rfl | omega | (simp; done) | (simp; omega)), some (σ2.ntok + 1), ?_⟩
        rw [hnext]
        simp only [go_sem, ↓reduceIte, Nat.reduceEqDiff, Nat.reduceAdd, reduceCtorEq, CCT, CCv, CCr, CCk, Nat.reduceBNe, Nat.reduceLeDiff, Nat.reduceLT, beqI, bneI, List.length_map, decide_true, decide_false, Int.reduceEq, Int.reduceLT, Int.reduceLE, Int.reduceGE, Int.reduceGT, not_true_eq_false, not_false_eq_true, Bool.and_true, Bool.true_and, Bool.and_false, Bool.false_and, and_true, true_and, and_self, Bool.not_not, *]
        exact .new (by simp [bytesI, numL_ne])
      · show fs.length < 0 + 9223372036854775900
        omega
      · refine ⟨by (try simp only [go_sem, ↓reduceIte, Nat.reduceEqDiff, Nat.reduceAdd, reduceCtorEq, CCT, CCv, CCr, CCk, Nat.reduceBNe, Nat.reduceLeDiff, Nat.reduceLT, beqI, bneI, List.length_map, decide_true, decide_false, Int.reduceEq, Int.reduceLT, Int.reduceLE, Int.reduceGE, Int.reduceGT, not_true_eq_false, not_false_eq_true, Bool.and_true, Bool.true_and, Bool.and_false, Bool.false_and, and_true, true_and, and_self, Bool.not_not, Int.toNat_natCast, List.length_take, *]) <;> (first | done | rfl | omega | (simp; done) | (simp; omega)), by (try simp only [go_sem, ↓reduceIte, Nat.reduceEqDiff, Nat.reduceAdd, reduceCtorEq, CCT, CCv, CCr, CCk, Nat.reduceBNe, Nat.reduceLeDiff, Nat.reduceLT, beqI, bneI, List.length_map, decide_true, decide_false, Int.reduceEq, Int.reduceLT, Int.reduceLE, Int.reduceGE, Int.reduceGT, not_true_eq_false, not_false_eq_true, Bool.and_true, Bool.true_and, Bool.and_false, Bool.false_and, and_true, true_and, and_self, Bool.not_not, Int.toNat_natCast, List.length_take, *]) <;> (first | done | rfl | omega | (simp; done) | (simp; omega)), by (try simp only [go_sem, ↓reduceIte, Nat.reduceEqDiff, Nat.reduceAdd, reduceCtorEq, CCT, CCv, CCr, CCk, Nat.reduceBNe, Nat.reduceLeDiff, Nat.reduceLT, beqI, bneI, List.length_map, decide_true, decide_false, Int.reduceEq, Int.reduceLT, Int.reduceLE, Int.reduceGE, Int.reduceGT, not_true_eq_false, not_false_eq_true, Bool.and_true, Bool.true_and, Bool.and_false, Bool.false_and, and_true, true_and, and_self, Bool.not_not, Int.toNat_natCast, List.length_take, *]) <;> (first | done | rfl | omega | (simp; done) | (simp; omega)), by (try simp only [go_sem, ↓reduceIte, Nat.reduceEqDiff, Nat.reduceAdd, reduceCtorEq, CCT, CCv, CCr, CCk, Nat.reduceBNe, Nat.reduceLeDiff, Nat.reduceLT, beqI, bneI, List.length_map, decide_true, decide_false, Int.reduceEq, Int.reduceLT, Int.reduceLE, Int.reduceGE, Int.reduceGT, not_true_eq_false, not_false_eq_true, Bool.and_true, Bool.true_and, Bool.and_false, Bool.false_and, and_true, true_and, and_self, Bool.not_not, Int.toNat_natCast, List.length_take, *]) <;> (first | done | rfl | omega | (simp; done) | (simp; omega)), by (try simp only [go_sem, ↓reduceIte, Nat.reduceEqDiff, Nat.reduceAdd, reduceCtorEq, CCT, CCv, CCr, CCk, Nat.reduceBNe, Nat.reduceLeDiff, Nat.reduceLT, beqI, bneI, List.length_map, decide_true, decide_false, Int.reduceEq, Int.reduceLT, Int.reduceLE, Int.reduceGE, Int.reduceGT, not_true_eq_false, not_false_eq_true, Bool.and_true, Bool.true_and, Bool.and_false, Bool.false_and, and_true, true_and, and_self, Bool.not_not, Int.toNat_natCast, List.length_take, *]) <;> (first | done | rfl | omega | (simp; done) | (simp; omega)), by (try simp only [go_sem, ↓reduceIte, Nat.reduceEqDiff, Nat.reduceAdd, reduceCtorEq, CCT, CCv, CCr, CCk, Nat.reduceBNe, Nat.reduceLeDiff, Nat.reduceLT, beqI, bneI, List.length_map, decide_true, decide_false, Int.reduceEq, Int.reduceLT, Int.reduceLE, Int.reduceGE, Int.reduceGT, not_true_eq_false, not_false_eq_true, Bool.and_true, Bool.true_and, Bool.and_false, Bool.false_and, and_true, true_and, and_self, Bool.not_not, Int.toNat_natCast, List.length_take, *]) <;> (first | done | rfl | omega | (simp; done) | (simp; omega)), by (try simp only [go_sem, ↓reduceIte, Nat.reduceEqDiff, Nat.reduceAdd, reduceCtorEq, CCT, CCv, CCr, CCk, Nat.reduceBNe, Nat.reduceLeDiff, Nat.reduceLT, beqI, bneI, List.length_map, decide_true, decide_false, Int.reduceEq, Int.reduceLT, Int.reduceLE, Int.reduceGE, Int.reduceGT, not_true_eq_false, not_false_eq_true, Bool.and_true, Bool.true_and, Bool.and_false, Bool.false_and, and_true, true_and, and_self, Bool.not_not, Int.toNat_natCast, List.length_take, *]) <;> (first | done | rfl | omega | (simp; done) | (simp; omega)), by (try simp only [go_sem, ↓reduceIte, Nat.reduceEqDiff, Nat.reduceAdd, reduceCtorEq, CCT, CCv, CCr, CCk, Nat.reduceBNe, Nat.reduceLeDiff, Nat.reduceLT, beqI, bneI, List.length_map, decide_true, decide_false, Int.reduceEq, Int.reduceLT, Int.reduceLE, Int.reduceGE, Int.reduceGT, not_true_eq_false, not_false_eq_true, Bool.and_true, Bool.true_and, Bool.and_false, Bool.false_and, and_true, true_and, and_self, Bool.not_not, Int.toNat_natCast, List.length_take, *]) <;> (first | done | rfl | omega | (simp; done) | (simp; omega)), hg6, none, ?_, .inl rfl⟩
        simp only [go_sem, ↓reduceIte, Nat.reduceEqDiff, Nat.reduceAdd, reduceCtorEq, CCT, CCv, CCr, CCk, Nat.reduceBNe, Nat.reduceLeDiff, Nat.reduceLT, beqI, bneI, List.length_map, decide_true, decide_false, Int.reduceEq, Int.reduceLT, Int.reduceLE, Int.reduceGE, Int.reduceGT, not_true_eq_false, not_false_eq_true, Bool.and_true, Bool.true_and, Bool.and_false, Bool.false_and, and_true, true_and, and_self, Bool.not_not, *]
        exact .lit
  · rintro ρ σ ⟨h29, h30, h31, kk, hg⟩ K hx hr
    rw [List.take_length] at hg
    have hlt : ¬ (l.length : Int) < (l.length : Int) := by omega
    simp only [go_sem, ↓reduceIte, Nat.reduceEqDiff, Nat.reduceAdd, reduceCtorEq, CCT, CCv, CCr, CCk, Nat.reduceBNe, Nat.reduceLeDiff, Nat.reduceLT, beqI, bneI, List.length_map, decide_true, decide_false, Int.reduceEq, Int.reduceLT, Int.reduceLE, Int.reduceGE, Int.reduceGT, not_true_eq_false, not_false_eq_true, Bool.and_true, Bool.true_and, Bool.and_false, Bool.false_and, and_true, true_and, and_self, Bool.not_not, hx, h29, h30, h31, hlt, gw_comp hg]
    refine W.gw_ret_tup (vs := [.int .i64 0]) (us := [.int .i64 0]) hg rfl ?_
    rw [valSt_grow]
    exact hX
  · show l.length < 0 + 9223372036854775900
    omega
  · refine ⟨by (try simp only [go_sem, ↓reduceIte, Nat.reduceEqDiff, Nat.reduceAdd, reduceCtorEq, CCT, CCv, CCr, CCk, Nat.reduceBNe, Nat.reduceLeDiff, Nat.reduceLT, beqI, bneI, List.length_map, decide_true, decide_false, Int.reduceEq, Int.reduceLT, Int.reduceLE, Int.reduceGE, Int.reduceGT, not_true_eq_false, not_false_eq_true, Bool.and_true, Bool.true_and, Bool.and_false, Bool.false_and, and_true, true_and, and_self, Bool.not_not, Int.toNat_natCast, List.length_take, *]) <;> (first | done | rfl | omega | (simp; done) | (simp; omega)), by (try simp only [go_sem, ↓reduceIte, Nat.reduceEqDiff, Nat.reduceAdd, reduceCtorEq, CCT, CCv, CCr, CCk, Nat.reduceBNe, Nat.reduceLeDiff, Nat.reduceLT, beqI, bneI, List.length_map, decide_true, decide_false, Int.reduceEq, Int.reduceLT, Int.reduceLE, Int.reduceGE, Int.reduceGT, not_true_eq_false, not_false_eq_true, Bool.and_true, Bool.true_and, Bool.and_false, Bool.false_and, and_true, true_and, and_self, Bool.not_not, Int.toNat_natCast, List.length_take, *]) <;> (first | done | rfl | omega | (simp; done) | (simp; omega)), by (try simp only [go_sem, ↓reduceIte, Nat.reduceEqDiff, Nat.reduceAdd, reduceCtorEq, CCT, CCv, CCr, CCk, Nat.reduceBNe, Nat.reduceLeDiff, Nat.reduceLT, beqI, bneI, List.length_map, decide_true, decide_false, Int.reduceEq, Int.reduceLT, Int.reduceLE, Int.reduceGE, Int.reduceGT, not_true_eq_false, not_false_eq_true, Bool.and_true, Bool.true_and, Bool.and_false, Bool.false_and, and_true, true_and, and_self, Bool.not_not, Int.toNat_natCast, List.length_take, *]) <;> (first | done | rfl | omega | (simp; done) | (simp; omega)), k0, ?_⟩
    simp only [go_sem, ↓reduceIte, Nat.reduceEqDiff, Nat.reduceAdd, reduceCtorEq, CCT, CCv, CCr, CCk, Nat.reduceBNe, Nat.reduceLeDiff, Nat.reduceLT, beqI, bneI, List.length_map, decide_true, decide_false, Int.reduceEq, Int.reduceLT, Int.reduceLE, Int.reduceGE, Int.reduceGT, not_true_eq_false, not_false_eq_true, Bool.and_true, Bool.true_and, Bool.and_false, Bool.false_and, and_true, true_and, and_self, Bool.not_not, *]
    simpa using hg0
theorem Gf.ltk {e : TypeId} {xs : List AV} {σ : St} {v : AV} {t : Nat} (h : Gf e xs σ v (some t)) : t < σ.ntok := by
  rcases h with h | ⟨h, _⟩
  · exact h.lt
  · cases h
theorem refBytes_c (d : Nat) (bl : Bool) (l : List Typ) (hl : l.length ≤ 9223372036854775807) (hnm : ∀ t ∈ l, t.name.size ≤ 9223372036854775807) (hne : l ≠ []) : evalF Try.prog CC (d + 60) 18 [encTs bl l] St.empty = some (.tup [growR 5 (bytesI (bytesS l).1), .int .i64 (bytesS l).2], valSt (growR 5 (bytesI (bytesS l).1))) := by
  generalize hX : some ((.tup [growR 5 (bytesI (bytesS l).1), .int .i64 (bytesS l).2], valSt (growR 5 (bytesI (bytesS l).1))) : AV × St) = X
  have h1 := fun d => refCheck_c d bl l hl hnm
  simp only [encTs, resC] at h1
  refine wp_eq ?_
  rw [run_18 _ _ _ (by simp)]; unfold Try.f18; simp only [Option.getD_some]
  simp only [encTs]
  simp only [go_sem, ↓reduceIte, Nat.reduceEqDiff, Nat.reduceAdd, reduceCtorEq, CCT, CCv, CCr, CCk, Nat.reduceBNe, Nat.reduceLeDiff, Nat.reduceLT, beqI, bneI, List.length_map, decide_true, decide_false, Int.reduceEq, Int.reduceLT, Int.reduceLE, Int.reduceGE, Int.reduceGT, not_true_eq_false, not_false_eq_true, Bool.and_true, Bool.true_and, Bool.and_false, Bool.false_and, and_true, true_and, and_self, Bool.not_not, h1]
  refine W.br_ndec (fun he => ?_) (fun he => ?_)
  · have : bytesS l = ([], (checkAll l).2) := by rw [bytesS, if_neg he]
    rw [this] at hX
    simp only [go_sem, ↓reduceIte, Nat.reduceEqDiff, Nat.reduceAdd, reduceCtorEq, CCT, CCv, CCr, CCk, Nat.reduceBNe, Nat.reduceLeDiff, Nat.reduceLT, beqI, bneI, List.length_map, decide_true, decide_false, Int.reduceEq, Int.reduceLT, Int.reduceLE, Int.reduceGE, Int.reduceGT, not_true_eq_false, not_false_eq_true, Bool.and_true, Bool.true_and, Bool.and_false, Bool.false_and, and_true, true_and, and_self, Bool.not_not, h1, he]
    exact hX
  have hS : bytesS l = (numL l.length ++ l.flatMap typeB, 0) := by rw [bytesS, if_pos he]
  rw [hS] at hX
  obtain ⟨hlen, hok⟩ := checkAll_ok he
  have hw : IntKind.u64.wrap (l.length : Int) = (l.length : Nat) := by rw [IntKind.wrap_u64]; omega
  have hnl : (numL l.length).length ≤ 1 := numL_len 0 _ (by omega)
  simp only [go_sem, ↓reduceIte, Nat.reduceEqDiff, Nat.reduceAdd, reduceCtorEq, CCT, CCv, CCr, CCk, Nat.reduceBNe, Nat.reduceLeDiff, Nat.reduceLT, beqI, bneI, List.length_map, decide_true, decide_false, Int.reduceEq, Int.reduceLT, Int.reduceLE, Int.reduceGE, Int.reduceGT, not_true_eq_false, not_false_eq_true, Bool.and_true, Bool.true_and, Bool.and_false, Bool.false_and, and_true, true_and, and_self, Bool.not_not, h1, he, hw]
  refine call31 (d := d + 54) (n := l.length) (by omega) rfl ?_
  intro v0 σ0 k0 hg0 hσ0
  simp only [go_sem, ↓reduceIte, Nat.reduceEqDiff, Nat.reduceAdd, reduceCtorEq, CCT, CCv, CCr, CCk, Nat.reduceBNe, Nat.reduceLeDiff, Nat.reduceLT, beqI, bneI, List.length_map, decide_true, decide_false, Int.reduceEq, Int.reduceLT, Int.reduceLE, Int.reduceGE, Int.reduceGT, not_true_eq_false, not_false_eq_true, Bool.and_true, Bool.true_and, Bool.and_false, Bool.false_and, and_true, true_and, and_self, Bool.not_not, h1, he, hw]
  clear hσ0
  refine W.iter_rule (fun i ρ σ => ρ 0 = .list 32 bl (l.map encTy) none ∧ ρ 7 = .int .i64 i ∧ ∃ kk, Gf 5 (bytesI (numL l.length ++ (l.take i).flatMap typeB)) σ (ρ 6) kk ∧ (0 < i → Gw 5 (bytesI (numL l.length ++ (l.take i).flatMap typeB)) σ (ρ 6) kk)) l.length ?_ ?_ _ 0 _ _ (Nat.zero_le _) ?_ ?_
  · clear hg0
    rintro i ρ σ hi ⟨h0, h7, kk, hg, _⟩ K hK hx hr
    have hlt : (i : Int) < (l.length : Int) := by omega
    have hwrap : IntKind.i64.wrap ((i : Int) + 1) = ((i + 1 : Nat) : Int) := by rw [IntKind.wrap_i64]; omega
    obtain ⟨c1, c2, _, _⟩ := checkS_ok hi (hok i hi)
    have hat := at0_nat hi
    have hidx : idxOk (i : Int) l.length = true := by simp [idxOk]; omega
    have hget : (l.map encTy)[((i : Nat) : Int).toNat]? = some (encTy l[i]) := by simp [hi]
    have hns := hnm l[i] (List.getElem_mem hi)
    have hsn : l.take (i + 1) = l.take i ++ [l[i]] := List.take_succ_eq_append_getElem hi
    have htl := typesB_len (l.take i)
    rw [List.length_take] at htl
    generalize l[i] = t at hat hsn hget hns
    rw [hat] at c1 c2
    generalize hv6 : ρ 6 = v6 at hg
    have hne6 : bytesI (numL l.length ++ (l.take i).flatMap typeB) ≠ [] := by simp [bytesI, numL_ne]
    obtain ⟨name, tv, tr, tb, fs⟩ := t
    have hfs : fs.length ≤ 12 := by first | exact c1 | exact c2
    simp only [encTy] at hget
    dsimp only at hns
    simp only [go_sem, ↓reduceIte, Nat.reduceEqDiff, Nat.reduceAdd, reduceCtorEq, CCT, CCv, CCr, CCk, Nat.reduceBNe, Nat.reduceLeDiff, Nat.reduceLT, beqI, bneI, List.length_map, decide_true, decide_false, Int.reduceEq, Int.reduceLT, Int.reduceLE, Int.reduceGE, Int.reduceGT, not_true_eq_false, not_false_eq_true, Bool.and_true, Bool.true_and, Bool.and_false, Bool.false_and, and_true, true_and, and_self, Bool.not_not, h0, h7, hv6, hlt, hidx, hget]
    refine W.call_gw_tup (refText_c (d + 53) name hns) rfl rfl ?_
    intro v1 σ1 k1 hg1 hσ1
    have hg6 : Gf 5 _ σ1 v6 kk := Gf.call hg hσ1
    clear hσ1
    obtain ⟨fl, hfl⟩ : ∃ fl, fl = flagI tv tr := ⟨_, rfl⟩
    have hnext : bytesI (numL l.length ++ (l.take (i + 1)).flatMap typeB) = bytesI (numL l.length ++ (l.take i).flatMap typeB) ++ bytesI (textR name).1 ++ bytesI (intsR (fl :: fs.flatMap fldI)).1 := by
      rw [hsn, hfl]; simp [typeB, typeI, bytesI]
    have ht17 := textR_len name
    have hi50 := intsR_len (fl :: fs.flatMap fldI)
    clear hat hsn
    cases tv <;> cases tr
    all_goals
      simp only [flagI, if_true, if_false, Int.zero_add, Int.add_zero, Int.reduceAdd, Bool.false_eq_true] at hfl
      simp only [go_sem, ↓reduceIte, Nat.reduceEqDiff, Nat.reduceAdd, reduceCtorEq, CCT, CCv, CCr, CCk, Nat.reduceBNe, Nat.reduceLeDiff, Nat.reduceLT, beqI, bneI, List.length_map, decide_true, decide_false, Int.reduceEq, Int.reduceLT, Int.reduceLE, Int.reduceGE, Int.reduceGT, not_true_eq_false, not_false_eq_true, Bool.and_true, Bool.true_and, Bool.and_false, Bool.false_and, and_true, true_and, and_self, Bool.not_not, h0, h7, hv6, hidx, hget]
      refine W.iter_rule (fun j ρ s => ρ 0 = .list 32 bl (l.map encTy) none ∧ ρ 7 = .int .i64 i ∧ ρ 6 = v6 ∧ ρ 8 = v1 ∧ ρ 12 = .int .i64 j ∧ Gf 5 (bytesI (numL l.length ++ (l.take i).flatMap typeB)) s v6 kk ∧ ∃ k3, Gf 3 (intsA (fl :: (fs.take j).flatMap fldI)) s (ρ 11) k3 ∧ (k3 = none ∨ k3 ≠ kk)) fs.length ?_ ?_ _ 0 _ _ (Nat.zero_le _) ?_ ?_
      · clear hx hr hg6
        rintro j ρ s hj ⟨h0, h7, h6, h8, h12, hg6, k3, hg3, hk3⟩ K2 hK2 hx hr
        have hlt2 : (j : Int) < (fs.length : Int) := by omega
        have hwrap2 : IntKind.i64.wrap ((j : Int) + 1) = ((j + 1 : Nat) : Int) := by rw [IntKind.wrap_i64]; omega
        have hidx2 : idxOk (j : Int) fs.length = true := by simp [idxOk]; omega
        have hget2 : (fs.map encF)[((j : Nat) : Int).toNat]? = some (encF fs[j]) := by simp [hj]
        have hsn : fs.take (j + 1) = fs.take j ++ [fs[j]] := List.take_succ_eq_append_getElem hj
        have hfl5 := fldI_len (fs.take j)
        rw [List.length_take] at hfl5
        generalize fs[j] = f at hget2 hsn
        simp only [encF] at hget2
        simp only [go_sem, ↓reduceIte, Nat.reduceEqDiff, Nat.reduceAdd, reduceCtorEq, CCT, CCv, CCr, CCk, Nat.reduceBNe, Nat.reduceLeDiff, Nat.reduceLT, beqI, bneI, List.length_map, decide_true, decide_false, Int.reduceEq, Int.reduceLT, Int.reduceLE, Int.reduceGE, Int.reduceGT, not_true_eq_false, not_false_eq_true, Bool.and_true, Bool.true_and, Bool.and_false, Bool.false_and, and_true, true_and, and_self, Bool.not_not, h0, h7, h6, h8, h12, hlt2, hidx, hget, hidx2, hget2]
        refine gfx (T := T) (t := 33) (ys := intsA (fldI f)) (Gf.same hg3 (by intro; rfl) (by rfl)) (by simp [intsA]) rfl ?_ ?_ ?_
        · rfl
        · refine roomy_of ?_ (by decide)
          simp only [intsA, List.length_map, List.length_cons, hfl5]
          show _ + 5 ≤ _
          omega
        simp only [go_sem, ↓reduceIte, Nat.reduceEqDiff, Nat.reduceAdd, reduceCtorEq, CCT, CCv, CCr, CCk, Nat.reduceBNe, Nat.reduceLeDiff, Nat.reduceLT, beqI, bneI, List.length_map, decide_true, decide_false, Int.reduceEq, Int.reduceLT, Int.reduceLE, Int.reduceGE, Int.reduceGT, not_true_eq_false, not_false_eq_true, Bool.and_true, Bool.true_and, Bool.and_false, Bool.false_and, and_true, true_and, and_self, Bool.not_not, h0, h7, h6, h8, h12, hwrap2]
        refine hK2 _ _ ?_
        have hq : intsA (fl :: (fs.take (j + 1)).flatMap fldI) = intsA (fl :: (fs.take j).flatMap fldI) ++ intsA (fldI f) := by
          rw [hsn]; simp [intsA]
        refine ⟨by (try simp only [go_sem, ↓reduceIte, Nat.reduceEqDiff, Nat.reduceAdd, reduceCtorEq, CCT, CCv, CCr, CCk, Nat.reduceBNe, Nat.reduceLeDiff, Nat.reduceLT, beqI, bneI, List.length_map, decide_true, decide_false, Int.reduceEq, Int.reduceLT, Int.reduceLE, Int.reduceGE, Int.reduceGT, not_true_eq_false, not_false_eq_true, Bool.and_true, Bool.true_and, Bool.and_false, Bool.false_and, and_true, true_and, and_self, Bool.not_not, Int.toNat_natCast, List.length_take, *]) <;> (first | done | rfl | omega | (simp; done) | (simp; omega)), by (try simp only [go_sem, ↓reduceIte, Nat.reduceEqDiff, Nat.reduceAdd, reduceCtorEq, CCT, CCv, CCr, CCk, Nat.reduceBNe, Nat.reduceLeDiff, Nat.reduceLT, beqI, bneI, List.length_map, decide_true, decide_false, Int.reduceEq, Int.reduceLT, Int.reduceLE, Int.reduceGE, Int.reduceGT, not_true_eq_false, not_false_eq_true, Bool.and_true, Bool.true_and, Bool.and_false, Bool.false_and, and_true, true_and, and_self, Bool.not_not, Int.toNat_natCast, List.length_take, *]) <;> (first | done | rfl | omega | (simp; done) | (simp; omega)), by (try simp only [go_sem, ↓reduceIte, Nat.reduceEqDiff, Nat.reduceAdd, reduceCtorEq, CCT, CCv, CCr, CCk, Nat.reduceBNe, Nat.reduceLeDiff, Nat.reduceLT, beqI, bneI, List.length_map, decide_true, decide_false, Int.reduceEq, Int.reduceLT, Int.reduceLE, Int.reduceGE, Int.reduceGT, not_true_eq_false, not_false_eq_true, Bool.and_true, Bool.true_and, Bool.and_false, Bool.false_and, and_true, true_and, and_self, Bool.not_not, Int.toNat_natCast, List.length_take, *]) <;> (first | done | rfl | omega | (simp; done) | (simp; omega)), by (try simp only [go_sem, ↓reduceIte, Nat.reduceEqDiff, Nat.reduceAdd, reduceCtorEq, CCT, CCv, CCr, CCk, Nat.reduceBNe, Nat.reduceLeDiff, Nat.reduceLT, beqI, bneI, List.length_map, decide_true, decide_false, Int.reduceEq, Int.reduceLT, Int.reduceLE, Int.reduceGE, Int.reduceGT, not_true_eq_false, not_false_eq_true, Bool.and_true, Bool.true_and, Bool.and_false, Bool.false_and, and_true, true_and, and_self, Bool.not_not, Int.toNat_natCast, List.length_take, *]) <;> (first | done | rfl | omega | (simp; done) | (simp; omega)), by (try simp only [go_sem, ↓reduceIte, Nat.reduceEqDiff, Nat.reduceAdd, reduceCtorEq, CCT, CCv, CCr, CCk, Nat.reduceBNe, Nat.reduceLeDiff, Nat.reduceLT, beqI, bneI, List.length_map, decide_true, decide_false, Int.reduceEq, Int.reduceLT, Int.reduceLE, Int.reduceGE, Int.reduceGT, not_true_eq_false, not_false_eq_true, Bool.and_true, Bool.true_and, Bool.and_false, Bool.false_and, and_true, true_and, and_self, Bool.not_not, Int.toNat_natCast, List.length_take, *]) <;> (first | done | rfl | omega | (simp; done) | (simp; omega)), ?_, some s.ntok, ?_, ?_⟩
        · refine Gf.tokNew (Gf.same hg6 (by intro; rfl) (by rfl)) ?_
          rcases hk3 with rfl | h
          · exact tok_or
          · exact .inr h
        · rw [hq]
          simp only [go_sem, ↓reduceIte, Nat.reduceEqDiff, Nat.reduceAdd, reduceCtorEq, CCT, CCv, CCr, CCk, Nat.reduceBNe, Nat.reduceLeDiff, Nat.reduceLT, beqI, bneI, List.length_map, decide_true, decide_false, Int.reduceEq, Int.reduceLT, Int.reduceLE, Int.reduceGE, Int.reduceGT, not_true_eq_false, not_false_eq_true, Bool.and_true, Bool.true_and, Bool.and_false, Bool.false_and, and_true, true_and, and_self, Bool.not_not, *]
          exact .inl (.new (by simp [intsA]))
        · right
          intro h
          subst h
          exact absurd (Gf.ltk hg6) (Nat.lt_irrefl _)
      · clear hx hr hg6
        rintro ρ s ⟨h0, h7, h6, h8, h12, hg6, k3, hg3, hk3⟩ K2 hx hr
        have hlt2 : ¬ (fs.length : Int) < (fs.length : Int) := by omega
        rw [List.take_length] at hg3
        obtain ⟨tt, h11⟩ := hg3.list (by simp [intsA])
        subst h6
        subst h8
        simp only [go_sem, ↓reduceIte, Nat.reduceEqDiff, Nat.reduceAdd, reduceCtorEq, CCT, CCv, CCr, CCk, Nat.reduceBNe, Nat.reduceLeDiff, Nat.reduceLT, beqI, bneI, List.length_map, decide_true, decide_false, Int.reduceEq, Int.reduceLT, Int.reduceLE, Int.reduceGE, Int.reduceGT, not_true_eq_false, not_false_eq_true, Bool.and_true, Bool.true_and, Bool.and_false, Bool.false_and, and_true, true_and, and_self, Bool.not_not, hx, h0, h7, h12, h11, hlt2, hidx, hget]
        refine W.call_gw_tup ((refInts_c (d + 53) false (fl :: fs.flatMap fldI)).resolve_right (by simp)) rfl rfl ?_
        intro v2 σ2 k2 hg2 hσ2
        have hg6b := Gf.call hg6 hσ2
        simp only [go_sem, ↓reduceIte, Nat.reduceEqDiff, Nat.reduceAdd, reduceCtorEq, CCT, CCv, CCr, CCk, Nat.reduceBNe, Nat.reduceLeDiff, Nat.reduceLT, beqI, bneI, List.length_map, decide_true, decide_false, Int.reduceEq, Int.reduceLT, Int.reduceLE, Int.reduceGE, Int.reduceGT, not_true_eq_false, not_false_eq_true, Bool.and_true, Bool.true_and, Bool.and_false, Bool.false_and, and_true, true_and, and_self, Bool.not_not, hx, h0, h7, h12, h11]
        refine gfx (T := T) (t := 43) (ys := bytesI (textR name).1) hg6b hne6 rfl ?_ (roomy_of ?_ (by decide)) ?_
        · simp only [go_sem, ↓reduceIte, Nat.reduceEqDiff, Nat.reduceAdd, reduceCtorEq, CCT, CCv, CCr, CCk, Nat.reduceBNe, Nat.reduceLeDiff, Nat.reduceLT, beqI, bneI, List.length_map, decide_true, decide_false, Int.reduceEq, Int.reduceLT, Int.reduceLE, Int.reduceGE, Int.reduceGT, not_true_eq_false, not_false_eq_true, Bool.and_true, Bool.true_and, Bool.and_false, Bool.false_and, and_true, true_and, and_self, Bool.not_not, gw_news hg1]
        · simp only [bytesI, List.length_map, List.length_append]
          omega
        simp only [go_sem, ↓reduceIte, Nat.reduceEqDiff, Nat.reduceAdd, reduceCtorEq, CCT, CCv, CCr, CCk, Nat.reduceBNe, Nat.reduceLeDiff, Nat.reduceLT, beqI, bneI, List.length_map, decide_true, decide_false, Int.reduceEq, Int.reduceLT, Int.reduceLE, Int.reduceGE, Int.reduceGT, not_true_eq_false, not_false_eq_true, Bool.and_true, Bool.true_and, Bool.and_false, Bool.false_and, and_true, true_and, and_self, Bool.not_not, hx, h0, h7, h12, h11, gw_news hg2]
        refine W.br_ok (roomy_of ?_ (by decide)) ?_
        · simp only [bytesI, List.length_map, List.length_append]
          omega
        simp only [go_sem, ↓reduceIte, Nat.reduceEqDiff, Nat.reduceAdd, reduceCtorEq, CCT, CCv, CCr, CCk, Nat.reduceBNe, Nat.reduceLeDiff, Nat.reduceLT, beqI, bneI, List.length_map, decide_true, decide_false, Int.reduceEq, Int.reduceLT, Int.reduceLE, Int.reduceGE, Int.reduceGT, not_true_eq_false, not_false_eq_true, Bool.and_true, Bool.true_and, Bool.and_false, Bool.false_and, and_true, true_and, and_self, Bool.not_not, hx, h0, h7, h12, h11, gw_news hg2, hwrap]
        refine hK _ _ ?_
        refine ⟨by (try simp only [go_sem, ↓reduceIte, Nat.reduceEqDiff, Nat.reduceAdd, reduceCtorEq, CCT, CCv, CCr, CCk, Nat.reduceBNe, Nat.reduceLeDiff, Nat.reduceLT, beqI, bneI, List.length_map, decide_true, decide_false, Int.reduceEq, Int.reduceLT, Int.reduceLE, Int.reduceGE, Int.reduceGT, not_true_eq_false, not_false_eq_true, Bool.and_true, Bool.true_and, Bool.and_false, Bool.false_and, and_true, true_and, and_self, Bool.not_not, Int.toNat_natCast, List.length_take, *]) <;> (first | done | rfl | omega | (simp; done) | (simp; omega)), by (try simp only [go_sem, ↓reduceIte, Nat.reduceEqDiff, Nat.reduceAdd, reduceCtorEq, CCT, CCv, CCr, CCk, Nat.reduceBNe, Nat.reduceLeDiff, Nat.reduceLT, beqI, bneI, List.length_map, decide_true, decide_false, Int.reduceEq, Int.reduceLT, Int.reduceLE, Int.reduceGE, Int.reduceGT, not_true_eq_false, not_false_eq_true, Bool.and_true, Bool.true_and, Bool.and_false, Bool.false_and, and_true, true_and, and_self, Bool.not_not, Int.toNat_natCast, List.length_take, *]) <;> (first | done | rfl | omega | (simp; done) | (simp; omega)), some (σ2.ntok + 1), ?_⟩
        rw [hnext]
        simp only [go_sem, ↓reduceIte, Nat.reduceEqDiff, Nat.reduceAdd, reduceCtorEq, CCT, CCv, CCr, CCk, Nat.reduceBNe, Nat.reduceLeDiff, Nat.reduceLT, beqI, bneI, List.length_map, decide_true, decide_false, Int.reduceEq, Int.reduceLT, Int.reduceLE, Int.reduceGE, Int.reduceGT, not_true_eq_false, not_false_eq_true, Bool.and_true, Bool.true_and, Bool.and_false, Bool.false_and, and_true, true_and, and_self, Bool.not_not, *]
        refine ⟨.inl (.new (by simp [bytesI, numL_ne])), fun _ => .new (by simp [bytesI, numL_ne])⟩
      · show fs.length < 0 + 9223372036854775900
        omega
      · refine ⟨by (try simp only [go_sem, ↓reduceIte, Nat.reduceEqDiff, Nat.reduceAdd, reduceCtorEq, CCT, CCv, CCr, CCk, Nat.reduceBNe, Nat.reduceLeDiff, Nat.reduceLT, beqI, bneI, List.length_map, decide_true, decide_false, Int.reduceEq, Int.reduceLT, Int.reduceLE, Int.reduceGE, Int.reduceGT, not_true_eq_false, not_false_eq_true, Bool.and_true, Bool.true_and, Bool.and_false, Bool.false_and, and_true, true_and, and_self, Bool.not_not, Int.toNat_natCast, List.length_take, *]) <;> (first | done | rfl | omega | (simp; done) | (simp; omega)), by (try simp only [go_sem, ↓reduceIte, Nat.reduceEqDiff, Nat.reduceAdd, reduceCtorEq, CCT, CCv, CCr, CCk, Nat.reduceBNe, Nat.reduceLeDiff, Nat.reduceLT, beqI, bneI, List.length_map, decide_true, decide_false, Int.reduceEq, Int.reduceLT, Int.reduceLE, Int.reduceGE, Int.reduceGT, not_true_eq_false, not_false_eq_true, Bool.and_true, Bool.true_and, Bool.and_false, Bool.false_and, and_true, true_and, and_self, Bool.not_not, Int.toNat_natCast, List.length_take, *]) <;> (first | done | rfl | omega | (simp; done) | (simp; omega)), by (try simp only [go_sem, ↓reduceIte, Nat.reduceEqDiff, Nat.reduceAdd, reduceCtorEq, CCT, CCv, CCr, CCk, Nat.reduceBNe, Nat.reduceLeDiff, Nat.reduceLT, beqI, bneI, List.length_map, decide_true, decide_false, Int.reduceEq, Int.reduceLT, Int.reduceLE, Int.reduceGE, Int.reduceGT, not_true_eq_false, not_false_eq_true, Bool.and_true, Bool.true_and, Bool.and_false, Bool.false_and, and_true, true_and, and_self, Bool.not_not, Int.toNat_natCast, List.length_take, *]) <;> (first | done | rfl | omega | (simp; done) | (simp; omega)), by (try simp only [go_sem, ↓reduceIte, Nat.reduceEqDiff, Nat.reduceAdd, reduceCtorEq, CCT, CCv, CCr, CCk, Nat.reduceBNe, Nat.reduceLeDiff, Nat.reduceLT, beqI, bneI, List.length_map, decide_true, decide_false, Int.reduceEq, Int.reduceLT, Int.reduceLE, Int.reduceGE, Int.reduceGT, not_true_eq_false, not_false_eq_true, Bool.and_true, Bool.true_and, Bool.and_false, Bool.false_and, and_true, true_and, and_self, Bool.not_not, Int.toNat_natCast, List.length_take, *]) <;> (first | done | rfl | omega | (simp; done) | (simp; omega)), by (try simp only [go_sem, ↓reduceIte, Nat.reduceEqDiff, Nat.reduceAdd, reduceCtorEq, CCT, CCv, CCr, CCk, Nat.reduceBNe, Nat.reduceLeDiff, Nat.reduceLT, beqI, bneI, List.length_map, decide_true, decide_false, Int.reduceEq, Int.reduceLT, Int.reduceLE, Int.reduceGE, Int.reduceGT, not_true_eq_false, not_false_eq_true, Bool.and_true, Bool.true_and, Bool.and_false, Bool.false_and, and_true, true_and, and_self, Bool.not_not, Int.toNat_natCast, List.length_take, *]) <;> (first | done | rfl | omega | (simp; done) | (simp; omega)), hg6, none, ?_, .inl rfl⟩
        simp only [go_sem, ↓reduceIte, Nat.reduceEqDiff, Nat.reduceAdd, reduceCtorEq, CCT, CCv, CCr, CCk, Nat.reduceBNe, Nat.reduceLeDiff, Nat.reduceLT, beqI, bneI, List.length_map, decide_true, decide_false, Int.reduceEq, Int.reduceLT, Int.reduceLE, Int.reduceGE, Int.reduceGT, not_true_eq_false, not_false_eq_true, Bool.and_true, Bool.true_and, Bool.and_false, Bool.false_and, and_true, true_and, and_self, Bool.not_not, *]
        exact .lit
  · rintro ρ σ ⟨h0, h7, kk, _, hg⟩ K hx hr
    have hg := hg (List.length_pos_iff.2 hne)
    rw [List.take_length] at hg
    have hlt : ¬ (l.length : Int) < (l.length : Int) := by omega
    simp only [go_sem, ↓reduceIte, Nat.reduceEqDiff, Nat.reduceAdd, reduceCtorEq, CCT, CCv, CCr, CCk, Nat.reduceBNe, Nat.reduceLeDiff, Nat.reduceLT, beqI, bneI, List.length_map, decide_true, decide_false, Int.reduceEq, Int.reduceLT, Int.reduceLE, Int.reduceGE, Int.reduceGT, not_true_eq_false, not_false_eq_true, Bool.and_true, Bool.true_and, Bool.and_false, Bool.false_and, and_true, true_and, and_self, Bool.not_not, hx, h0, h7, hlt, gw_comp hg]
    refine W.gw_ret_tup (vs := [.int .i64 0]) (us := [.int .i64 0]) hg rfl ?_
    rw [valSt_grow]
    exact hX
  · show l.length < 0 + 9223372036854775900
    omega
  · refine ⟨by (try simp only [go_sem, ↓reduceIte, Nat.reduceEqDiff, Nat.reduceAdd, reduceCtorEq, CCT, CCv, CCr, CCk, Nat.reduceBNe, Nat.reduceLeDiff, Nat.reduceLT, beqI, bneI, List.length_map, decide_true, decide_false, Int.reduceEq, Int.reduceLT, Int.reduceLE, Int.reduceGE, Int.reduceGT, not_true_eq_false, not_false_eq_true, Bool.and_true, Bool.true_and, Bool.and_false, Bool.false_and, and_true, true_and, and_self, Bool.not_not, Int.toNat_natCast, List.length_take, *]) <;> (first | done | rfl | omega | (simp; done) | (simp; omega)), by (try simp only [go_sem, ↓reduceIte, Nat.reduceEqDiff, Nat.reduceAdd, reduceCtorEq, CCT, CCv, CCr, CCk, Nat.reduceBNe, Nat.reduceLeDiff, Nat.reduceLT, beqI, bneI, List.length_map, decide_true, decide_false, Int.reduceEq, Int.reduceLT, Int.reduceLE, Int.reduceGE, Int.reduceGT, not_true_eq_false, not_false_eq_true, Bool.and_true, Bool.true_and, Bool.and_false, Bool.false_and, and_true, true_and, and_self, Bool.not_not, Int.toNat_natCast, List.length_take, *]) <;> (first | done | rfl | omega | (simp; done) | (simp; omega)), k0, ?_, fun h => absurd h (Nat.lt_irrefl _)⟩
    simp only [go_sem, ↓reduceIte, Nat.reduceEqDiff, Nat.reduceAdd, reduceCtorEq, CCT, CCv, CCr, CCk, Nat.reduceBNe, Nat.reduceLeDiff, Nat.reduceLT, beqI, bneI, List.length_map, decide_true, decide_false, Int.reduceEq, Int.reduceLT, Int.reduceLE, Int.reduceGE, Int.reduceGT, not_true_eq_false, not_false_eq_true, Bool.and_true, Bool.true_and, Bool.and_false, Bool.false_and, and_true, true_and, and_self, Bool.not_not, *]
    simpa using hg0
end Go.Proofs.Ytjembadjfiohpaa.Va

/- chapter 5: TypesBytes, the law -/
namespace Go.Proofs.Ytjembadjfiohpaa.Va
open Go
set_option linter.unusedVariables false
set_option linter.unusedSimpArgs false
set_option maxRecDepth 100000
def bsOf (xs : List Int) : ByteArray := ⟨(xs.map fun n => UInt8.ofNat n.toNat).toArray⟩
theorem mapM_byte : ∀ (xs : List Int), (bytesI xs).mapM unbyte = some (xs.map fun n => UInt8.ofNat n.toNat)
  | [] => rfl
  | x :: xs => by
    have ih := mapM_byte xs
    unfold bytesI at ih ⊢
    rw [List.map_cons, List.mapM_cons, ih]
    rfl
/-- A row of bytes, as a text. -/
theorem list_str {xs : List Int} {b : Bool} {tt : Option Nat} {m : Mem} : @aConvert T m 43 9 (.list 5 b (bytesI xs) tt) = some (.str (bsOf xs)) := by
  simp only [aConvert, ty_9, ty_43, ty_5, elemIs, sliceOf, BEq.rfl, and_self, if_true, Option.bind_some, mapM_byte, Option.map_some, bsOf]
theorem gw_str {xs : List Int} {σ : St} {m : Mem} {v : AV} {kk : Option Nat} (hg : Gw 5 (bytesI xs) σ v kk) : @aConvert T m 43 9 v = some (.str (bsOf xs)) := by
  rcases hg with ⟨h, rfl, _⟩ | ⟨_, t, rfl, rfl, _⟩
  · have : xs = [] := by simpa [bytesI] using h
    subst this
    simp only [aConvert, ty_9, ty_43, ty_5, elemIs, sliceOf, BEq.rfl, and_self, if_true, Option.bind_some]
    rfl
  · exact list_str
theorem law8_nil (b : Bool) : evalF Try.prog CC 70 8 [.list 32 b [] none] St.empty = some (.bool true, St.empty) := by
  cases b <;> kernel_rfl
theorem law8 (bl : Bool) (l : List Typ) (hl : l.length ≤ 9223372036854775807) (hnm : ∀ t ∈ l, t.name.size ≤ 9223372036854775807) (hne : l ≠ []) : evalF Try.prog CC 70 8 [encTs bl l] St.empty = some (.bool true, St.empty) := by
  have hs := fun d => shown_c d
  refine wp_eq ?_
  rw [run_8 _ _ _ (by simp)]; unfold Try.f8; simp only [Option.getD_some]
  simp only [encTs]
  simp only [go_sem, ↓reduceIte, Nat.reduceEqDiff, Nat.reduceAdd, reduceCtorEq, CCT, CCv, CCr, CCk, Nat.reduceBNe, Nat.reduceLeDiff, Nat.reduceLT, beqI, bneI, List.length_map, decide_true, decide_false, Int.reduceEq, Int.reduceLT, Int.reduceLE, Int.reduceGE, Int.reduceGT, not_true_eq_false, not_false_eq_true, Bool.and_true, Bool.true_and, Bool.and_false, Bool.false_and, and_true, true_and, and_self, Bool.not_not, *]
  refine W.call_gw_tup (Bytes_c 9 bl l hl) rfl rfl ?_
  intro v1 σ1 k1 hg1 hσ1
  simp only [go_sem, ↓reduceIte, Nat.reduceEqDiff, Nat.reduceAdd, reduceCtorEq, CCT, CCv, CCr, CCk, Nat.reduceBNe, Nat.reduceLeDiff, Nat.reduceLT, beqI, bneI, List.length_map, decide_true, decide_false, Int.reduceEq, Int.reduceLT, Int.reduceLE, Int.reduceGE, Int.reduceGT, not_true_eq_false, not_false_eq_true, Bool.and_true, Bool.true_and, Bool.and_false, Bool.false_and, and_true, true_and, and_self, Bool.not_not, *]
  refine W.call_gw_tup (refBytes_c 9 bl l hl hnm hne) rfl rfl ?_
  intro v2 σ2 k2 hg2 hσ2
  have e1 := fun m => gw_str (m := m) hg1
  have e2 := fun m => gw_str (m := m) hg2
  simp only [go_sem, ↓reduceIte, Nat.reduceEqDiff, Nat.reduceAdd, reduceCtorEq, CCT, CCv, CCr, CCk, Nat.reduceBNe, Nat.reduceLeDiff, Nat.reduceLT, beqI, bneI, List.length_map, decide_true, decide_false, Int.reduceEq, Int.reduceLT, Int.reduceLE, Int.reduceGE, Int.reduceGT, not_true_eq_false, not_false_eq_true, Bool.and_true, Bool.true_and, Bool.and_false, Bool.false_and, and_true, true_and, and_self, Bool.not_not, e1, e2]
  rfl
theorem bytes_law (_d : Nat) (a : AV) (h : Arg T 22 a) : ∃ σ', evalF Try.prog CC 70 8 [a] St.empty = some (.bool true, σ') := by
  obtain ⟨b, l, rfl, h1, h2, _⟩ := arg_typs h
  by_cases hl : l = []
  · subst hl
    exact ⟨_, law8_nil b⟩
  · exact ⟨_, law8 b l h1 h2 hl⟩
end Go.Proofs.Ytjembadjfiohpaa.Va

/- chapter 4: a number, taken -/
namespace Go.Proofs.Ytjembadjfiohpaa.Va
open Go
set_option linter.unusedVariables false
set_option linter.unusedSimpArgs false
set_option maxRecDepth 100000
theorem u64_nat {a : Nat} (h : a < 2 ^ 64) : IntKind.u64.wrap (a : Int) = a := by rw [IntKind.wrap_u64]; omega
theorem u64_shl (t : TypeId) {c p i : Nat} (hp : p = 128 ^ i) (hi : i ≤ 9) (h1 : c * p < 2 ^ 64) : aBin T .shl t (.int .u64 (c : Nat)) (.int .i64 ((7 * i : Nat) : Int)) = some (.int .u64 ((c * p : Nat) : Int)) := by
  have e : ¬ ((7 * i : Nat) : Int) < 0 := by omega
  simp only [aBin, intBin, if_neg e, Int.toNat_natCast]
  have hm : min (7 * i) IntKind.u64.bits = 7 * i := Nat.min_eq_left (by show _ ≤ 64; omega)
  have hq : (2 : Int) ^ (7 * i) = ((p : Nat) : Int) := by rw [Int.pow_mul, hp]; push_cast; rfl
  rw [hm, hq, ← Int.natCast_mul, u64_nat h1]
theorem u64_or (t : TypeId) {a b : Nat} {i : Nat} (ha : a < 2 ^ i) (hb : 2 ^ i ∣ b) (h : a + b < 2 ^ 64) : aBin T .or t (.int .u64 a) (.int .u64 b) = some (.int .u64 ((a : Int) + b)) := by
  obtain ⟨c, rfl⟩ := hb
  simp only [aBin, intBin, if_true]
  have h1 : (BitVec.ofInt IntKind.u64.bits (a : Int) ||| BitVec.ofInt IntKind.u64.bits ((2 ^ i * c : Nat) : Int)).toNat = a + 2 ^ i * c := by
    show (BitVec.ofInt 64 (a : Int) ||| BitVec.ofInt 64 ((2 ^ i * c : Nat) : Int)).toNat = _
    rw [BitVec.toNat_or, BitVec.ofInt_natCast, BitVec.ofInt_natCast, BitVec.toNat_ofNat, BitVec.toNat_ofNat, Nat.mod_eq_of_lt (by omega), Nat.mod_eq_of_lt (by omega), Nat.or_comm, ← Nat.two_pow_add_eq_or_of_lt ha]
    omega
  rw [h1, u64_nat h]
  simp
def tk : Nat → Int → List Int → Int × Int × Int
  | _, _, [] => (0, 0, 2)
  | i, acc, c :: l =>
    if i = 9 ∧ (128 ≤ c ∨ c = 0) then (0, 0, 3)
    else if i = 9 ∧ 1 < c then (0, 0, 4)
    else if c < 128 then (if c = 0 ∧ 0 < i then (0, 0, 3) else (acc + c * 128 ^ i, (i : Int) + 1, 0))
    else tk (i + 1) (acc + (c % 128) * 128 ^ i) l
def takeN (l : List Int) : Int × Int × Int := tk 0 0 l
def encN (p : Int × Int × Int) : AV := .tup [.int .u64 p.1, .int .i64 p.2.1, .int .i64 p.2.2]
theorem TakeNumber_c (d : Nat) (b : Bool) (l : List Int) (hb : ∀ x ∈ l, 0 ≤ x ∧ x < 256) (hl : l.length ≤ 9223372036854775807) : evalF Try.prog CC (d + 1) 34 [.list 5 b (bytesI l) none] St.empty = some (encN (takeN l), St.empty) := by
  generalize hX : some (encN (takeN l), St.empty) = X
  have hil : (bytesI l).length = l.length := by simp [bytesI]
  refine wp_eq ?_
  rw [run_34 _ _ _ (by simp)]; unfold Try.f34; simp only [Option.getD_some]
  simp only [go_sem, ↓reduceIte, Nat.reduceEqDiff, Nat.reduceAdd, reduceCtorEq, CCT, CCv, CCr, CCk, Nat.reduceBNe, Nat.reduceLeDiff, Nat.reduceLT, beqI, bneI, List.length_map, decide_true, decide_false, Int.reduceEq, Int.reduceLT, Int.reduceLE, Int.reduceGE, Int.reduceGT, not_true_eq_false, not_false_eq_true, Bool.and_true, Bool.true_and, Bool.and_false, Bool.false_and, and_true, true_and, and_self, Bool.not_not, hil]
  refine W.iter_rule (fun i ρ σ => ρ 8 = .list 5 b (bytesI l) none ∧ ρ 9 = .int .i64 l.length ∧ ρ 10 = .int .i64 i ∧ i ≤ 9 ∧ ∃ acc : Nat, ρ 5 = .int .u64 (acc : Nat) ∧ acc < 128 ^ i ∧ tk i acc (l.drop i) = takeN l) l.length ?_ ?_ _ 0 _ _ (Nat.zero_le _) ?_ ?_
  · rintro i ρ σ hi ⟨h8, h9, h10, hi9, acc, h5, hacc, hres⟩ K hK hx hr
    have hlt : (i : Int) < (l.length : Int) := by omega
    have hwrap : IntKind.i64.wrap ((i : Int) + 1) = ((i + 1 : Nat) : Int) := by rw [IntKind.wrap_i64]; omega
    have hwrap7 : IntKind.i64.wrap (7 * (i : Int)) = ((7 * i : Nat) : Int) := by rw [IntKind.wrap_i64]; omega
    have hidx : idxOk (i : Int) l.length = true := by simp [idxOk]; omega
    have hget : (bytesI l)[((i : Nat) : Int).toNat]? = some (.int .u8 l[i]) := by simp [bytesI, hi]
    obtain ⟨c0, c1⟩ := hb l[i] (List.getElem_mem hi)
    rw [List.drop_eq_getElem_cons hi] at hres
    generalize l[i] = c at c0 c1 hget hres
    simp only [tk] at hres
    have hm : c.tmod 128 = c % 128 := Int.tmod_eq_emod_of_nonneg c0
    have hw8 : IntKind.u64.wrap (c % 128) = c % 128 := by rw [IntKind.wrap_u64]; omega
    have hI9 : ((i : Int) = 9) = (i = 9) := by simp; omega
    by_cases h3 : i = 9 ∧ (128 ≤ c ∨ c = 0)
    · rw [if_pos h3] at hres
      rw [← hres] at hX
      obtain ⟨h9i, h3⟩ := h3
      have h9i := eq_true (show (i : Int) = 9 by omega)
      by_cases h4 : c ≥ 128
      · simp only [go_sem, ↓reduceIte, Nat.reduceEqDiff, Nat.reduceAdd, reduceCtorEq, CCT, CCv, CCr, CCk, Nat.reduceBNe, Nat.reduceLeDiff, Nat.reduceLT, beqI, bneI, List.length_map, decide_true, decide_false, Int.reduceEq, Int.reduceLT, Int.reduceLE, Int.reduceGE, Int.reduceGT, not_true_eq_false, not_false_eq_true, Bool.and_true, Bool.true_and, Bool.and_false, Bool.false_and, and_true, true_and, and_self, Bool.not_not, h8, h9, h10, h5, hlt, hil, hidx, hget, h9i, h4, hr]
        exact hX
      · have h5' : c = 0 := by omega
        subst h5'
        simp only [go_sem, ↓reduceIte, Nat.reduceEqDiff, Nat.reduceAdd, reduceCtorEq, CCT, CCv, CCr, CCk, Nat.reduceBNe, Nat.reduceLeDiff, Nat.reduceLT, beqI, bneI, List.length_map, decide_true, decide_false, Int.reduceEq, Int.reduceLT, Int.reduceLE, Int.reduceGE, Int.reduceGT, not_true_eq_false, not_false_eq_true, Bool.and_true, Bool.true_and, Bool.and_false, Bool.false_and, and_true, true_and, and_self, Bool.not_not, h8, h9, h10, h5, hlt, hil, hidx, hget, h9i, h4, hr]
        exact hX
    rw [if_neg h3] at hres
    by_cases h4 : i = 9 ∧ 1 < c
    · rw [if_pos h4] at hres
      rw [← hres] at hX
      obtain ⟨h9i, h4⟩ := h4
      have h9i := eq_true (show (i : Int) = 9 by omega)
      simp only [go_sem, ↓reduceIte, Nat.reduceEqDiff, Nat.reduceAdd, reduceCtorEq, CCT, CCv, CCr, CCk, Nat.reduceBNe, Nat.reduceLeDiff, Nat.reduceLT, beqI, bneI, List.length_map, decide_true, decide_false, Int.reduceEq, Int.reduceLT, Int.reduceLE, Int.reduceGE, Int.reduceGT, not_true_eq_false, not_false_eq_true, Bool.and_true, Bool.true_and, Bool.and_false, Bool.false_and, and_true, true_and, and_self, Bool.not_not, h8, h9, h10, h5, hlt, hil, hidx, hget, h9i, h4, hr, show ¬ c ≥ 128 by omega, show ¬ c = 0 by omega, show c > 1 by omega]
      exact hX
    rw [if_neg h4] at hres
    have hpw : (128 : Nat) ^ (i + 1) = 128 ^ i * 128 := Nat.pow_succ ..
    have hp0 : 0 < (128 : Nat) ^ i := Nat.pos_of_ne_zero (by simp)
    have hp9 : (128 : Nat) ^ i ≤ 128 ^ 9 := Nat.pow_le_pow_right (by decide) hi9
    have hp8 : i ≤ 8 → (128 : Nat) ^ i ≤ 128 ^ 8 := fun h => Nat.pow_le_pow_right (by decide) h
    obtain ⟨m, hcm⟩ : ∃ m : Nat, c % 128 = m := ⟨(c % 128).toNat, by omega⟩
    have hm128 : m < 128 := by omega
    have hm1 : i = 9 → m = 1 := by omega
    have hdv : 2 ^ (7 * i) ∣ m * 128 ^ i := by rw [Nat.pow_mul]; exact Nat.dvd_mul_left _ _
    have hmul : m * 128 ^ i ≤ 127 * 128 ^ i := Nat.mul_le_mul_right _ (by omega)
    have hbd : acc + m * 128 ^ i < 2 ^ 64 := by
      rcases Nat.lt_or_ge i 9 with h | h
      · have := hp8 (by omega)
        omega
      · have := hm1 (by omega)
        subst this
        omega
    have hshl := u64_shl 63 (c := m) (p := 128 ^ i) rfl hi9 (by omega)
    have hcast : ((m : Int) * 128 ^ i) = ((m * 128 ^ i : Nat) : Int) := by push_cast; rfl
    have hor := u64_or 63 (a := acc) (b := m * 128 ^ i) (i := 7 * i) (by rw [Nat.pow_mul]; exact hacc) hdv hbd
    rw [← Int.natCast_add] at hor
    have hnew : acc + m * 128 ^ i < 128 ^ (i + 1) := by omega
    rw [hcm, hcast, ← Int.natCast_add] at hres
    rw [hcm] at hm hw8
    generalize m * 128 ^ i = q at hshl hor hnew hres hcast
    by_cases h9i : i = 9
    case' pos =>
      have h9i' := eq_true (show (i : Int) = 9 by omega)
      simp only [go_sem, ↓reduceIte, Nat.reduceEqDiff, Nat.reduceAdd, reduceCtorEq, CCT, CCv, CCr, CCk, Nat.reduceBNe, Nat.reduceLeDiff, Nat.reduceLT, beqI, bneI, List.length_map, decide_true, decide_false, Int.reduceEq, Int.reduceLT, Int.reduceLE, Int.reduceGE, Int.reduceGT, not_true_eq_false, not_false_eq_true, Bool.and_true, Bool.true_and, Bool.and_false, Bool.false_and, and_true, true_and, and_self, Bool.not_not, h8, h9, h10, h5, hlt, hil, hidx, hget, h9i', show ¬ c ≥ 128 by omega, show ¬ c = 0 by omega, show ¬ c > 1 by omega, hm, hw8, hwrap7, hshl, hor]
    case' neg =>
      have h9i' := eq_false (show ¬ (i : Int) = 9 by omega)
      simp only [go_sem, ↓reduceIte, Nat.reduceEqDiff, Nat.reduceAdd, reduceCtorEq, CCT, CCv, CCr, CCk, Nat.reduceBNe, Nat.reduceLeDiff, Nat.reduceLT, beqI, bneI, List.length_map, decide_true, decide_false, Int.reduceEq, Int.reduceLT, Int.reduceLE, Int.reduceGE, Int.reduceGT, not_true_eq_false, not_false_eq_true, Bool.and_true, Bool.true_and, Bool.and_false, Bool.false_and, and_true, true_and, and_self, Bool.not_not, h8, h9, h10, h5, hlt, hil, hidx, hget, h9i', hm, hw8, hwrap7, hshl, hor]
    all_goals
      by_cases hc : c < 128
      · rw [if_pos hc] at hres
        by_cases hz : c = 0 ∧ 0 < i
        · rw [if_pos hz] at hres
          rw [← hres] at hX
          obtain ⟨hz1, hz2⟩ := hz
          subst hz1
          simp only [go_sem, ↓reduceIte, Nat.reduceEqDiff, Nat.reduceAdd, reduceCtorEq, CCT, CCv, CCr, CCk, Nat.reduceBNe, Nat.reduceLeDiff, Nat.reduceLT, beqI, bneI, List.length_map, decide_true, decide_false, Int.reduceEq, Int.reduceLT, Int.reduceLE, Int.reduceGE, Int.reduceGT, not_true_eq_false, not_false_eq_true, Bool.and_true, Bool.true_and, Bool.and_false, Bool.false_and, and_true, true_and, and_self, Bool.not_not, h8, h9, h10, h5, hc, show (i : Int) > 0 by omega, hr]
          exact hX
        · rw [if_neg hz] at hres
          have hcm' : c = m := by omega
          rw [hcm', hcast] at hres
          rw [← hres] at hX
          by_cases hz1 : c = 0
          · have hi0 : ¬ (i : Int) > 0 := by omega
            simp only [go_sem, ↓reduceIte, Nat.reduceEqDiff, Nat.reduceAdd, reduceCtorEq, CCT, CCv, CCr, CCk, Nat.reduceBNe, Nat.reduceLeDiff, Nat.reduceLT, beqI, bneI, List.length_map, decide_true, decide_false, Int.reduceEq, Int.reduceLT, Int.reduceLE, Int.reduceGE, Int.reduceGT, not_true_eq_false, not_false_eq_true, Bool.and_true, Bool.true_and, Bool.and_false, Bool.false_and, and_true, true_and, and_self, Bool.not_not, h8, h9, h10, h5, hc, hz1, hi0, hr, hwrap]
            push_cast
            exact hX
          · simp only [go_sem, ↓reduceIte, Nat.reduceEqDiff, Nat.reduceAdd, reduceCtorEq, CCT, CCv, CCr, CCk, Nat.reduceBNe, Nat.reduceLeDiff, Nat.reduceLT, beqI, bneI, List.length_map, decide_true, decide_false, Int.reduceEq, Int.reduceLT, Int.reduceLE, Int.reduceGE, Int.reduceGT, not_true_eq_false, not_false_eq_true, Bool.and_true, Bool.true_and, Bool.and_false, Bool.false_and, and_true, true_and, and_self, Bool.not_not, h8, h9, h10, h5, hc, hz1, hr, hwrap]
            push_cast
            exact hX
      · rw [if_neg hc] at hres
        simp only [go_sem, ↓reduceIte, Nat.reduceEqDiff, Nat.reduceAdd, reduceCtorEq, CCT, CCv, CCr, CCk, Nat.reduceBNe, Nat.reduceLeDiff, Nat.reduceLT, beqI, bneI, List.length_map, decide_true, decide_false, Int.reduceEq, Int.reduceLT, Int.reduceLE, Int.reduceGE, Int.reduceGT, not_true_eq_false, not_false_eq_true, Bool.and_true, Bool.true_and, Bool.and_false, Bool.false_and, and_true, true_and, and_self, Bool.not_not, h8, h9, h10, h5, hc, hwrap]
        refine hK _ _ ?_
        exact ⟨by (try simp only [go_sem, ↓reduceIte, Nat.reduceEqDiff, Nat.reduceAdd, reduceCtorEq, CCT, CCv, CCr, CCk, Nat.reduceBNe, Nat.reduceLeDiff, Nat.reduceLT, beqI, bneI, List.length_map, decide_true, decide_false, Int.reduceEq, Int.reduceLT, Int.reduceLE, Int.reduceGE, Int.reduceGT, not_true_eq_false, not_false_eq_true, Bool.and_true, Bool.true_and, Bool.and_false, Bool.false_and, and_true, true_and, and_self, Bool.not_not, Int.toNat_natCast, List.length_take, *]) <;> (first | done | rfl | omega | (simp; done) | (simp; omega)), by (try simp only [go_sem, ↓reduceIte, Nat.reduceEqDiff, Nat.reduceAdd, reduceCtorEq, CCT, CCv, CCr, CCk, Nat.reduceBNe, Nat.reduceLeDiff, Nat.reduceLT, beqI, bneI, List.length_map, decide_true, decide_false, Int.reduceEq, Int.reduceLT, Int.reduceLE, Int.reduceGE, Int.reduceGT, not_true_eq_false, not_false_eq_true, Bool.and_true, Bool.true_and, Bool.and_false, Bool.false_and, and_true, true_and, and_self, Bool.not_not, Int.toNat_natCast, List.length_take, *]) <;> (first | done | rfl | omega | (simp; done) | (simp; omega)), by (try simp only [go_sem, ↓reduceIte, Nat.reduceEqDiff, Nat.reduceAdd, reduceCtorEq, CCT, CCv, CCr, CCk, Nat.reduceBNe, Nat.reduceLeDiff, Nat.reduceLT, beqI, bneI, List.length_map, decide_true, decide_false, Int.reduceEq, Int.reduceLT, Int.reduceLE, Int.reduceGE, Int.reduceGT, not_true_eq_false, not_false_eq_true, Bool.and_true, Bool.true_and, Bool.and_false, Bool.false_and, and_true, true_and, and_self, Bool.not_not, Int.toNat_natCast, List.length_take, *]) <;> (first | done | rfl | omega | (simp; done) | (simp; omega)), by omega, acc + q, by (try simp only [go_sem, ↓reduceIte, Nat.reduceEqDiff, Nat.reduceAdd, reduceCtorEq, CCT, CCv, CCr, CCk, Nat.reduceBNe, Nat.reduceLeDiff, Nat.reduceLT, beqI, bneI, List.length_map, decide_true, decide_false, Int.reduceEq, Int.reduceLT, Int.reduceLE, Int.reduceGE, Int.reduceGT, not_true_eq_false, not_false_eq_true, Bool.and_true, Bool.true_and, Bool.and_false, Bool.false_and, and_true, true_and, and_self, Bool.not_not, Int.toNat_natCast, List.length_take, *]) <;> (first | done | rfl | omega | (simp; done) | (simp; omega)), hnew, hres⟩
  · rintro ρ σ ⟨h8, h9, h10, hi9, acc, h5, hacc, hres⟩ K hx hr
    have hlt : ¬ (l.length : Int) < (l.length : Int) := by omega
    rw [List.drop_length] at hres
    rw [← hres] at hX
    simp only [go_sem, ↓reduceIte, Nat.reduceEqDiff, Nat.reduceAdd, reduceCtorEq, CCT, CCv, CCr, CCk, Nat.reduceBNe, Nat.reduceLeDiff, Nat.reduceLT, beqI, bneI, List.length_map, decide_true, decide_false, Int.reduceEq, Int.reduceLT, Int.reduceLE, Int.reduceGE, Int.reduceGT, not_true_eq_false, not_false_eq_true, Bool.and_true, Bool.true_and, Bool.and_false, Bool.false_and, and_true, true_and, and_self, Bool.not_not, hx, h8, h9, h10, hlt]
    exact hX
  · show l.length < 0 + 9223372036854775900
    omega
  · refine ⟨by (try simp only [go_sem, ↓reduceIte, Nat.reduceEqDiff, Nat.reduceAdd, reduceCtorEq, CCT, CCv, CCr, CCk, Nat.reduceBNe, Nat.reduceLeDiff, Nat.reduceLT, beqI, bneI, List.length_map, decide_true, decide_false, Int.reduceEq, Int.reduceLT, Int.reduceLE, Int.reduceGE, Int.reduceGT, not_true_eq_false, not_false_eq_true, Bool.and_true, Bool.true_and, Bool.and_false, Bool.false_and, and_true, true_and, and_self, Bool.not_not, Int.toNat_natCast, List.length_take, *]) <;> (first | done | rfl | omega | (simp; done) | (simp; omega)), by (try simp only [go_sem, ↓reduceIte, Nat.reduceEqDiff, Nat.reduceAdd, reduceCtorEq, CCT, CCv, CCr, CCk, Nat.reduceBNe, Nat.reduceLeDiff, Nat.reduceLT, beqI, bneI, List.length_map, decide_true, decide_false, Int.reduceEq, Int.reduceLT, Int.reduceLE, Int.reduceGE, Int.reduceGT, not_true_eq_false, not_false_eq_true, Bool.and_true, Bool.true_and, Bool.and_false, Bool.false_and, and_true, true_and, and_self, Bool.not_not, Int.toNat_natCast, List.length_take, *]) <;> (first | done | rfl | omega | (simp; done) | (simp; omega)), by (try simp only [go_sem, ↓reduceIte, Nat.reduceEqDiff, Nat.reduceAdd, reduceCtorEq, CCT, CCv, CCr, CCk, Nat.reduceBNe, Nat.reduceLeDiff, Nat.reduceLT, beqI, bneI, List.length_map, decide_true, decide_false, Int.reduceEq, Int.reduceLT, Int.reduceLE, Int.reduceGE, Int.reduceGT, not_true_eq_false, not_false_eq_true, Bool.and_true, Bool.true_and, Bool.and_false, Bool.false_and, and_true, true_and, and_self, Bool.not_not, Int.toNat_natCast, List.length_take, *]) <;> (first | done | rfl | omega | (simp; done) | (simp; omega)), by omega, 0, by (try simp only [go_sem, ↓reduceIte, Nat.reduceEqDiff, Nat.reduceAdd, reduceCtorEq, CCT, CCv, CCr, CCk, Nat.reduceBNe, Nat.reduceLeDiff, Nat.reduceLT, beqI, bneI, List.length_map, decide_true, decide_false, Int.reduceEq, Int.reduceLT, Int.reduceLE, Int.reduceGE, Int.reduceGT, not_true_eq_false, not_false_eq_true, Bool.and_true, Bool.true_and, Bool.and_false, Bool.false_and, and_true, true_and, and_self, Bool.not_not, Int.toNat_natCast, List.length_take, *]) <;> (first | done | rfl | omega | (simp; done) | (simp; omega)), by decide, rfl⟩
/-- how many bytes ahead go on -/
def lead : List Int → Nat
  | [] => 0
  | c :: l => if 128 ≤ c then lead l + 1 else 0
def hor : List Int → Int
  | [] => 0
  | c :: l => c % 128 + 128 * hor l
theorem lead_le : ∀ (l : List Int), lead l ≤ l.length
  | [] => Nat.le_refl _
  | c :: l => by
    have := lead_le l
    simp only [lead, List.length_cons]
    split <;> omega
def tkR (i : Nat) (acc : Int) (l : List Int) : Int × Int × Int :=
  if 10 ≤ i + lead l then (0, 0, 3) else if lead l = l.length then (0, 0, 2) else if at0 l (lead l : Nat) = 0 ∧ 0 < i + lead l then (0, 0, 3) else if i + lead l = 9 ∧ 1 < at0 l (lead l : Nat) then (0, 0, 4) else (acc + 128 ^ i * hor (l.take (lead l + 1)), ((i + lead l : Nat) : Int) + 1, 0)
theorem at0_cons {c : Int} {l : List Int} {n : Nat} : at0 (c :: l) ((n + 1 : Nat) : Int) = at0 l (n : Nat) := by
  simp only [at0, Int.toNat_natCast]
  rfl
theorem tk_scan : ∀ (l : List Int) (i : Nat) (acc : Int), i ≤ 9 → (∀ x ∈ l, 0 ≤ x ∧ x < 256) → tk i acc l = tkR i acc l
  | [], i, acc, hi, _ => by
    have : ¬ 10 ≤ i := by omega
    simp [tk, tkR, lead, this]
  | c :: l, i, acc, hi, hb => by
    obtain ⟨c0, c1⟩ := hb c (by simp)
    by_cases hc : 128 ≤ c
    · have hl : lead (c :: l) = lead l + 1 := by simp [lead, hc]
      unfold tk tkR
      rw [hl]
      by_cases h9 : i = 9
      · rw [if_pos ⟨h9, .inl hc⟩, if_pos (by omega)]
      · rw [if_neg (fun h => h9 h.1), if_neg (fun h => h9 h.1), if_neg (by omega), tk_scan l (i + 1) _ (by omega) fun x hx => hb x (by simp [hx])]
        unfold tkR
        rw [show i + 1 + lead l = i + (lead l + 1) by omega, at0_cons]
        have e1 : (lead l + 1 = (c :: l).length) ↔ lead l = l.length := by simp
        have e2 : acc + 128 ^ i * hor ((c :: l).take (lead l + 1 + 1)) = acc + c % 128 * 128 ^ i + 128 ^ (i + 1) * hor (l.take (lead l + 1)) := by
          rw [List.take_succ_cons, hor, Int.pow_succ, Int.mul_add, ← Int.add_assoc, Int.mul_comm (c % 128), Int.mul_assoc]
        simp only [e1, e2]
    · have hl : lead (c :: l) = 0 := by simp [lead, hc]
      have ha : at0 (c :: l) ((0 : Nat) : Int) = c := rfl
      unfold tk tkR
      rw [hl, ha, if_neg (show ¬ 10 ≤ i + 0 by omega), if_neg (show ¬ 0 = (c :: l).length by simp)]
      by_cases h9 : i = 9 ∧ (128 ≤ c ∨ c = 0)
      · rw [if_pos h9, if_pos (by omega)]
      · rw [if_neg h9]
        by_cases h8 : i = 9 ∧ 1 < c
        · rw [if_pos h8, if_neg (by omega), if_pos (by omega)]
        · rw [if_neg h8, if_pos (by omega)]
          by_cases h7 : c = 0 ∧ 0 < i
          · rw [if_pos h7, if_pos (by omega)]
          · rw [if_neg h7, if_neg (by omega), if_neg (by omega)]
            simp only [List.take_succ_cons, List.take_zero, hor, Int.mul_zero, Int.add_zero, Nat.add_zero]
            rw [Int.emod_eq_of_lt c0 (by omega), Int.mul_comm]
end Go.Proofs.Ytjembadjfiohpaa.Va
