/- chapter 5: TypesApart -/
import Derived.Test.YtjembadjfiohpaaFivZ
namespace Go.Proofs.Ytjembadjfiohpaa.Va
open Go
set_option linter.unusedVariables false
set_option linter.unusedSimpArgs false
set_option maxRecDepth 100000
theorem wsl_len {R : Type} {P : Option R → Prop} {T : Tab} {m : Mem} {t e : TypeId} {xs : List AV} {v : AV} {k : AV → Option R} (hs : Sl e xs v) (ht : T.ty t = some (.slice e)) (h : Wp P (k (.int .i64 xs.length))) : Wp P (@bnd _ R (@aLen T m t v) ⟨k⟩) := by
  rcases hs with ⟨rfl, rfl⟩ | ⟨b, kk, rfl⟩ <;> simpa [aLen, ht, bnd] using h
theorem wsl_idx {R : Type} {P : Option R → Prop} {T : Tab} {t e : TypeId} {xs : List AV} {v x : AV} {k : AV → Option R} {kd : IntKind} {i : Int} (hs : Sl e xs v) (ht : T.ty t = some (.slice e)) (h0 : 0 ≤ i) (hx : xs[i.toNat]? = some x) (h : Wp P (k (.fptr e x))) : Wp P (@bnd _ R (aIndexAddr T t v (.int kd i)) ⟨k⟩) := by
  have hlt : i < xs.length := by have := (List.getElem?_eq_some_iff.1 hx).1; omega
  rcases hs with ⟨rfl, rfl⟩ | ⟨b, kk, rfl⟩
  · simp at hx
  · simp only [aIndexAddr, ht, h0, hlt, and_self, if_true, hx]; exact h
theorem size_ok {l : List Typ} {tv : Bool} {f : Fld} (h : fieldS l tv f = 0) : 8 ≤ sizeS f ∧ sizeS f ≤ 128 ∧ sizeS f % 8 = 0 := by
  obtain ⟨k, n, ty, li, ke⟩ := f
  unfold fieldS at h
  simp only at h
  by_cases k1 : k = 1
  · subst k1
    simp only [if_true] at h
    split at h
    · split at h
      · cases h
      · rename_i hz
        unfold sizeS at hz ⊢
        simp only [if_true] at hz ⊢
        split at hz
        · exact absurd rfl hz
        · rename_i hn
          rw [if_neg hn, IntKind.wrap_i64]
          omega
    · cases h
  · unfold sizeS
    by_cases k2 : k = 2 ∨ k = 5 ∨ k = 6 ∨ k = 7
    · simp only [k1, if_false, k2, if_true]; omega
    · by_cases k3 : k = 3
      · simp only [k1, if_false, k2, k3, if_true]; omega
      · by_cases k4 : k = 4
        · simp only [k1, if_false, k2, k3, k4, if_true]; omega
        · exfalso
          simp only [not_or] at k2
          simp [k1, k2, k3, k4] at h
/-- the places: each behind the one ahead -/
def Steps : List Int → Int → Int → Prop
  | [], a, b => a = b
  | p :: ps, a, b => p = a ∧ a % 8 = 0 ∧ ∃ c, a < c ∧ Steps ps c b
theorem lay_ok {l : List Typ} {tv : Bool} (fs : List Fld) : ∀ (a : Int) (lk gp : Nat) (xs : List Int), fieldsS l tv fs a lk gp = 0 → a % 8 = 0 → 8 ≤ a → a ≤ 1000000 - 128 * (fs.length : Int) →
    ∃ ys b, layS fs a xs = some (xs ++ ys, b) ∧ ys.length = fs.length ∧ Steps ys a b ∧ b ≤ 256 ∧ 8 ≤ b := by
  induction fs with
  | nil =>
    intro a lk gp xs h _ ha _
    refine ⟨[], a, by simp [layS], rfl, rfl, ?_, ha⟩
    simp only [fieldsS] at h
    split at h
    · cases h
    · split at h
      · cases h
      · omega
  | cons f fs ih =>
    intro a lk gp xs h h8 ha hb
    simp only [fieldsS] at h
    split at h
    · rename_i hne; exact absurd h hne
    · rename_i hf0
      have hf0 : fieldS l tv f = 0 := by simpa using hf0
      obtain ⟨s1, s2, s3⟩ := size_ok hf0
      simp only [List.length_cons] at hb
      push_cast at hb
      have hw : IntKind.i64.wrap (a + sizeS f) = a + sizeS f := by
        rw [IntKind.wrap_i64]; omega
      rw [hw] at h
      obtain ⟨ys, b, e1, e2, e3, e4, e5⟩ := ih _ _ _ (xs ++ [a]) h (by omega) (by omega) (by omega)
      refine ⟨a :: ys, b, ?_, by simp [e2], ⟨rfl, h8, _, by omega, e3⟩, e4, e5⟩
      rw [layS, if_neg (by omega), hw, e1]
      simp
theorem steps_at : ∀ {ps : List Int} {a b : Int} {k : Nat}, Steps ps a b → (hk : k < ps.length) → ps[k] % 8 = 0 ∧ (k = 0 → ps[k] = a) ∧ (∀ h : k + 1 < ps.length, ps[k] < ps[k + 1]) ∧ (k + 1 = ps.length → ps[k] < b)
  | p :: ps, a, b, 0, h, hk => by
    obtain ⟨rfl, h8, c, hc, hs⟩ := h
    refine ⟨h8, fun _ => rfl, fun h => ?_, fun h => ?_⟩
    · have := (steps_at (k := 0) hs (by simpa using h)).2.1 rfl
      simp only [List.getElem_cons_zero, List.getElem_cons_succ]
      omega
    · have : ps = [] := by simpa using h
      subst this
      simp only [Steps] at hs
      simp only [List.getElem_cons_zero]; omega
  | p :: ps, a, b, k + 1, h, hk => by
    obtain ⟨rfl, h8, c, hc, hs⟩ := h
    obtain ⟨g1, g2, g3, g4⟩ := steps_at (k := k) hs (by simpa using hk)
    exact ⟨g1, fun h => by omega, fun h => g3 (by simpa using h), fun h => g4 (by simpa using h)⟩
theorem Layout_t (d : Nat) (l : List Typ) (t : Typ) (hc : fieldsS l t.value t.fields 8 0 0 = 0) (hn : t.fields.length ≤ 12) :
    ∃ ps n, evalF Try.prog CC (d + 5) 14 [encTy t] St.empty = some (.tup [growR 3 (intsA ps), .int .i64 n, .int .i64 0], valSt (growR 3 (intsA ps))) ∧ ps.length = t.fields.length ∧ Steps ps 8 n ∧ n ≤ 256 ∧ 8 ≤ n := by
  obtain ⟨ps, n, e1, e2, e3, e4, e5⟩ := lay_ok _ _ _ _ [] hc (by decide) (by decide) (by omega)
  refine ⟨ps, n, ?_, e2, e3, e4, e5⟩
  rw [encTy_T, Layout_c]
  simp only [layR, if_neg (show ¬ 12 < t.fields.length by omega), e1, List.nil_append, if_neg (show ¬ n > 256 by omega)]
  by_cases hp : ps = []
  · subst hp; simp [growR, intsA, valSt, valSt1]
  · have : intsA ps ≠ [] := by simpa [intsA] using hp
    simp [growR, hp, this, valSt, valSt1]
theorem checkAll_ok {l : List Typ} (h : (checkAll l).2 = 0) : l.length ≤ 32 ∧ ∀ i, i < l.length → checkS l i = 0 := by
  unfold checkAll at h
  split at h
  · cases h
  · rename_i hl
    refine ⟨by omega, ?_⟩
    cases hf : firstS (checkS l) l.length 0 with
    | none => exact fun i hi => firstS_none hf i (Nat.zero_le _) (by omega)
    | some p =>
      obtain ⟨i, e⟩ := p
      rw [hf] at h
      simp only at h
      exfalso
      have : ∀ {m j : Nat}, firstS (checkS l) m j = some (i, e) → e ≠ 0 := by
        intro m
        induction m with
        | zero => intro j hj; cases hj
        | succ m ih =>
          intro j hj
          simp only [firstS] at hj
          split at hj
          · rename_i hne; cases hj; exact hne
          · exact ih hj
      exact this hf h
theorem law5 (d : Nat) (bl : Bool) (l : List Typ) (hl : l.length ≤ 9223372036854775807) : evalF Try.prog CC (d + 60) 5 [encTs bl l] St.empty = some (.bool true, St.empty) := by
  have hs := fun d => shown_c d
  have h1 := fun d => Check_c d bl l hl
  simp only [encTs, resC] at h1
  refine wp_eq ?_
  rw [run_5 _ _ _ (by simp)]; unfold Try.f5; simp only [Option.getD_some]
  simp only [encTs]
  simp only [go_sem, ↓reduceIte, Nat.reduceEqDiff, Nat.reduceAdd, reduceCtorEq, CCT, CCv, CCr, CCk, Nat.reduceBNe, Nat.reduceLeDiff, Nat.reduceLT, beqI, bneI, List.length_map, decide_true, decide_false, Int.reduceEq, Int.reduceLT, Int.reduceLE, Int.reduceGE, Int.reduceGT, not_true_eq_false, not_false_eq_true, Bool.and_true, Bool.true_and, Bool.and_false, Bool.false_and, and_true, true_and, and_self, Bool.not_not, *]
  refine W.br_ndec (fun he => ?_) (fun he => ?_)
  · simp only [go_sem, ↓reduceIte, Nat.reduceEqDiff, Nat.reduceAdd, reduceCtorEq, CCT, CCv, CCr, CCk, Nat.reduceBNe, Nat.reduceLeDiff, Nat.reduceLT, beqI, bneI, List.length_map, decide_true, decide_false, Int.reduceEq, Int.reduceLT, Int.reduceLE, Int.reduceGE, Int.reduceGT, not_true_eq_false, not_false_eq_true, Bool.and_true, Bool.true_and, Bool.and_false, Bool.false_and, and_true, true_and, and_self, Bool.not_not, *]
    rfl
  obtain ⟨hlen, hok⟩ := checkAll_ok he
  simp only [go_sem, ↓reduceIte, Nat.reduceEqDiff, Nat.reduceAdd, reduceCtorEq, CCT, CCv, CCr, CCk, Nat.reduceBNe, Nat.reduceLeDiff, Nat.reduceLT, beqI, bneI, List.length_map, decide_true, decide_false, Int.reduceEq, Int.reduceLT, Int.reduceLE, Int.reduceGE, Int.reduceGT, not_true_eq_false, not_false_eq_true, Bool.and_true, Bool.true_and, Bool.and_false, Bool.false_and, and_true, true_and, and_self, Bool.not_not, he]
  refine W.iter_rule (fun i ρ s => ρ 0 = .list 32 bl (l.map encTy) none ∧ ρ 3 = .bool true ∧ ρ 6 = .int .i64 i) l.length ?_ ?_ _ 0 _ _ (Nat.zero_le _) ?_ ?_
  · rintro i ρ s hi ⟨h0, h3, h6⟩ K hK hx hr
    have hlt : (i : Int) < (l.length : Int) := by omega
    have hwrap : IntKind.i64.wrap ((i : Int) + 1) = ((i + 1 : Nat) : Int) := by rw [IntKind.wrap_i64]; omega
    obtain ⟨c1, c2, _, _⟩ := checkS_ok hi (hok i hi)
    obtain ⟨ps, n, hc, p1, p2, p3, p4⟩ := Layout_t (d + 54) l _ c2 c1
    have hil : (intsA ps).length = ps.length := by simp [intsA]
    simp only [go_sem, ↓reduceIte, Nat.reduceEqDiff, Nat.reduceAdd, reduceCtorEq, CCT, CCv, CCr, CCk, Nat.reduceBNe, Nat.reduceLeDiff, Nat.reduceLT, beqI, bneI, List.length_map, decide_true, decide_false, Int.reduceEq, Int.reduceLT, Int.reduceLE, Int.reduceGE, Int.reduceGT, not_true_eq_false, not_false_eq_true, Bool.and_true, Bool.true_and, Bool.and_false, Bool.false_and, and_true, true_and, and_self, Bool.not_not, h0, h3, h6, hlt]
    refine W.idx_at (by omega) (by omega) ?_
    generalize ht : at0 l (i : Int) = t at hc p1 c1 ⊢
    obtain ⟨name, tv, tr, tb, fs⟩ := t
    simp only [encTy] at hc p1 c1
    simp only [go_sem, ↓reduceIte, Nat.reduceEqDiff, Nat.reduceAdd, reduceCtorEq, CCT, CCv, CCr, CCk, Nat.reduceBNe, Nat.reduceLeDiff, Nat.reduceLT, beqI, bneI, List.length_map, decide_true, decide_false, Int.reduceEq, Int.reduceLT, Int.reduceLE, Int.reduceGE, Int.reduceGT, not_true_eq_false, not_false_eq_true, Bool.and_true, Bool.true_and, Bool.and_false, Bool.false_and, and_true, true_and, and_self, Bool.not_not, encTy, h0, h3, h6]
    refine W.call_gw_tup hc rfl rfl ?_
    intro v σ' kk hg hσ
    have hsl := hg.sl
    simp only [go_sem, ↓reduceIte, Nat.reduceEqDiff, Nat.reduceAdd, reduceCtorEq, CCT, CCv, CCr, CCk, Nat.reduceBNe, Nat.reduceLeDiff, Nat.reduceLT, beqI, bneI, List.length_map, decide_true, decide_false, Int.reduceEq, Int.reduceLT, Int.reduceLE, Int.reduceGE, Int.reduceGT, not_true_eq_false, not_false_eq_true, Bool.and_true, Bool.true_and, Bool.and_false, Bool.false_and, and_true, true_and, and_self, Bool.not_not, h0, h3, h6]
    refine wsl_len hsl ty_33 ?_
    simp only [go_sem, ↓reduceIte, Nat.reduceEqDiff, Nat.reduceAdd, reduceCtorEq, CCT, CCv, CCr, CCk, Nat.reduceBNe, Nat.reduceLeDiff, Nat.reduceLT, beqI, bneI, List.length_map, decide_true, decide_false, Int.reduceEq, Int.reduceLT, Int.reduceLE, Int.reduceGE, Int.reduceGT, not_true_eq_false, not_false_eq_true, Bool.and_true, Bool.true_and, Bool.and_false, Bool.false_and, and_true, true_and, and_self, Bool.not_not, h0, h3, h6, hil]
    refine W.idx_at (by omega) (by omega) ?_
    rw [ht]
    simp only [go_sem, ↓reduceIte, Nat.reduceEqDiff, Nat.reduceAdd, reduceCtorEq, CCT, CCv, CCr, CCk, Nat.reduceBNe, Nat.reduceLeDiff, Nat.reduceLT, beqI, bneI, List.length_map, decide_true, decide_false, Int.reduceEq, Int.reduceLT, Int.reduceLE, Int.reduceGE, Int.reduceGT, not_true_eq_false, not_false_eq_true, Bool.and_true, Bool.true_and, Bool.and_false, Bool.false_and, and_true, true_and, and_self, Bool.not_not, encTy, h0, h3, h6, hil, p1, show ¬ n > 256 by omega, show ¬ n < 8 by omega]
    refine W.iter_rule (fun k ρ s => ρ 0 = .list 32 bl (l.map encTy) none ∧ ρ 3 = .bool true ∧ ρ 6 = .int .i64 i ∧ ρ 7 = v ∧ ρ 8 = .int .i64 n ∧ ρ 11 = .int .i64 k ∧ ∃ a, ρ 10 = .int .i64 a ∧ (∀ h : k < ps.length, a = ps[k]) ∧ (k = ps.length → a = n)) ps.length ?_ ?_ _ 0 _ _ (Nat.zero_le _) ?_ ?_
    · clear hr hx
      rintro k ρ s hk ⟨h0, h3, h6, h7, h8, h11, a, h10, ha, _⟩ K2 hK2 hx hr
      have hlt : (k : Int) < (ps.length : Int) := by omega
      have hwrap2 : IntKind.i64.wrap ((k : Int) + 1) = ((k + 1 : Nat) : Int) := by rw [IntKind.wrap_i64]; omega
      have ha := ha hk
      subst ha
      obtain ⟨s1, s2, s3, s4⟩ := steps_at p2 hk
      have hget : (intsA ps)[((k : Nat) : Int).toNat]? = some (.int .i64 ps[k]) := by simp [intsA, hk]
      have hrem : ps[k].tmod 8 = 0 := by
        have : ps[k] % 8 = 0 := s1
        exact Int.tmod_eq_zero_of_dvd (Int.dvd_of_emod_eq_zero this)
      simp only [go_sem, ↓reduceIte, Nat.reduceEqDiff, Nat.reduceAdd, reduceCtorEq, CCT, CCv, CCr, CCk, Nat.reduceBNe, Nat.reduceLeDiff, Nat.reduceLT, beqI, bneI, List.length_map, decide_true, decide_false, Int.reduceEq, Int.reduceLT, Int.reduceLE, Int.reduceGE, Int.reduceGT, not_true_eq_false, not_false_eq_true, Bool.and_true, Bool.true_and, Bool.and_false, Bool.false_and, and_true, true_and, and_self, Bool.not_not, h0, h3, h6, h7, h8, h10, h11]
      refine wsl_len hsl ty_33 ?_
      simp only [go_sem, ↓reduceIte, Nat.reduceEqDiff, Nat.reduceAdd, reduceCtorEq, CCT, CCv, CCr, CCk, Nat.reduceBNe, Nat.reduceLeDiff, Nat.reduceLT, beqI, bneI, List.length_map, decide_true, decide_false, Int.reduceEq, Int.reduceLT, Int.reduceLE, Int.reduceGE, Int.reduceGT, not_true_eq_false, not_false_eq_true, Bool.and_true, Bool.true_and, Bool.and_false, Bool.false_and, and_true, true_and, and_self, Bool.not_not, h0, h3, h6, h7, h8, h10, h11, hil, hlt]
      refine wsl_idx hsl ty_33 (by omega) hget ?_
      simp only [go_sem, ↓reduceIte, Nat.reduceEqDiff, Nat.reduceAdd, reduceCtorEq, CCT, CCv, CCr, CCk, Nat.reduceBNe, Nat.reduceLeDiff, Nat.reduceLT, beqI, bneI, List.length_map, decide_true, decide_false, Int.reduceEq, Int.reduceLT, Int.reduceLE, Int.reduceGE, Int.reduceGT, not_true_eq_false, not_false_eq_true, Bool.and_true, Bool.true_and, Bool.and_false, Bool.false_and, and_true, true_and, and_self, Bool.not_not, h0, h3, h6, h7, h8, h10, h11, hil, hlt]
      refine wsl_idx hsl ty_33 (by omega) hget ?_
      simp only [go_sem, ↓reduceIte, Nat.reduceEqDiff, Nat.reduceAdd, reduceCtorEq, CCT, CCv, CCr, CCk, Nat.reduceBNe, Nat.reduceLeDiff, Nat.reduceLT, beqI, bneI, List.length_map, decide_true, decide_false, Int.reduceEq, Int.reduceLT, Int.reduceLE, Int.reduceGE, Int.reduceGT, not_true_eq_false, not_false_eq_true, Bool.and_true, Bool.true_and, Bool.and_false, Bool.false_and, and_true, true_and, and_self, Bool.not_not, h0, h3, h6, h7, h8, h10, h11, hil, hlt, hrem, show ((8 : Int) = 0) = False by simp]
      refine wsl_len hsl ty_33 ?_
      simp only [go_sem, ↓reduceIte, Nat.reduceEqDiff, Nat.reduceAdd, reduceCtorEq, CCT, CCv, CCr, CCk, Nat.reduceBNe, Nat.reduceLeDiff, Nat.reduceLT, beqI, bneI, List.length_map, decide_true, decide_false, Int.reduceEq, Int.reduceLT, Int.reduceLE, Int.reduceGE, Int.reduceGT, not_true_eq_false, not_false_eq_true, Bool.and_true, Bool.true_and, Bool.and_false, Bool.false_and, and_true, true_and, and_self, Bool.not_not, h0, h3, h6, h7, h8, h10, h11, hil, hlt, hwrap2]
      refine W.br_dec (fun hl => ?_) (fun hl => ?_)
      · have hl2 : k + 1 < ps.length := by omega
        have hget2 : (intsA ps)[(((k + 1 : Nat) : Int)).toNat]? = some (.int .i64 ps[k + 1]) := by simp [intsA, hl2]
        have hlt3 := s3 hl2
        simp only [go_sem, ↓reduceIte, Nat.reduceEqDiff, Nat.reduceAdd, reduceCtorEq, CCT, CCv, CCr, CCk, Nat.reduceBNe, Nat.reduceLeDiff, Nat.reduceLT, beqI, bneI, List.length_map, decide_true, decide_false, Int.reduceEq, Int.reduceLT, Int.reduceLE, Int.reduceGE, Int.reduceGT, not_true_eq_false, not_false_eq_true, Bool.and_true, Bool.true_and, Bool.and_false, Bool.false_and, and_true, true_and, and_self, Bool.not_not, h0, h3, h6, h7, h8, h10, h11, hil, hlt, hwrap2, hl]
        refine wsl_idx hsl ty_33 (by omega) hget2 ?_
        simp only [go_sem, ↓reduceIte, Nat.reduceEqDiff, Nat.reduceAdd, reduceCtorEq, CCT, CCv, CCr, CCk, Nat.reduceBNe, Nat.reduceLeDiff, Nat.reduceLT, beqI, bneI, List.length_map, decide_true, decide_false, Int.reduceEq, Int.reduceLT, Int.reduceLE, Int.reduceGE, Int.reduceGT, not_true_eq_false, not_false_eq_true, Bool.and_true, Bool.true_and, Bool.and_false, Bool.false_and, and_true, true_and, and_self, Bool.not_not, h0, h3, h6, h7, h8, h10, h11, hil, hlt, hwrap2, hl]
        refine wsl_idx hsl ty_33 (by omega) hget ?_
        simp only [go_sem, ↓reduceIte, Nat.reduceEqDiff, Nat.reduceAdd, reduceCtorEq, CCT, CCv, CCr, CCk, Nat.reduceBNe, Nat.reduceLeDiff, Nat.reduceLT, beqI, bneI, List.length_map, decide_true, decide_false, Int.reduceEq, Int.reduceLT, Int.reduceLE, Int.reduceGE, Int.reduceGT, not_true_eq_false, not_false_eq_true, Bool.and_true, Bool.true_and, Bool.and_false, Bool.false_and, and_true, true_and, and_self, Bool.not_not, h0, h3, h6, h7, h8, h10, h11, hil, hlt, hwrap2, hl, show ¬ ps[k + 1] ≤ ps[k] by omega]
        refine hK2 _ _ ?_
        exact ⟨by (try simp only [go_sem, ↓reduceIte, Nat.reduceEqDiff, Nat.reduceAdd, reduceCtorEq, CCT, CCv, CCr, CCk, Nat.reduceBNe, Nat.reduceLeDiff, Nat.reduceLT, beqI, bneI, List.length_map, decide_true, decide_false, Int.reduceEq, Int.reduceLT, Int.reduceLE, Int.reduceGE, Int.reduceGT, not_true_eq_false, not_false_eq_true, Bool.and_true, Bool.true_and, Bool.and_false, Bool.false_and, and_true, true_and, and_self, Bool.not_not, Int.toNat_natCast, List.length_take, *]) <;> (first | done | rfl | omega | (simp; done) | (simp; omega)), by (try simp only [go_sem, ↓reduceIte, Nat.reduceEqDiff, Nat.reduceAdd, reduceCtorEq, CCT, CCv, CCr, CCk, Nat.reduceBNe, Nat.reduceLeDiff, Nat.reduceLT, beqI, bneI, List.length_map, decide_true, decide_false, Int.reduceEq, Int.reduceLT, Int.reduceLE, Int.reduceGE, Int.reduceGT, not_true_eq_false, not_false_eq_true, Bool.and_true, Bool.true_and, Bool.and_false, Bool.false_and, and_true, true_and, and_self, Bool.not_not, Int.toNat_natCast, List.length_take, *]) <;> (first | done | rfl | omega | (simp; done) | (simp; omega)), by (try simp only [go_sem, ↓reduceIte, Nat.reduceEqDiff, Nat.reduceAdd, reduceCtorEq, CCT, CCv, CCr, CCk, Nat.reduceBNe, Nat.reduceLeDiff, Nat.reduceLT, beqI, bneI, List.length_map, decide_true, decide_false, Int.reduceEq, Int.reduceLT, Int.reduceLE, Int.reduceGE, Int.reduceGT, not_true_eq_false, not_false_eq_true, Bool.and_true, Bool.true_and, Bool.and_false, Bool.false_and, and_true, true_and, and_self, Bool.not_not, Int.toNat_natCast, List.length_take, *]) <;> (first | done | rfl | omega | (simp; done) | (simp; omega)), by (try simp only [go_sem, ↓reduceIte, Nat.reduceEqDiff, Nat.reduceAdd, reduceCtorEq, CCT, CCv, CCr, CCk, Nat.reduceBNe, Nat.reduceLeDiff, Nat.reduceLT, beqI, bneI, List.length_map, decide_true, decide_false, Int.reduceEq, Int.reduceLT, Int.reduceLE, Int.reduceGE, Int.reduceGT, not_true_eq_false, not_false_eq_true, Bool.and_true, Bool.true_and, Bool.and_false, Bool.false_and, and_true, true_and, and_self, Bool.not_not, Int.toNat_natCast, List.length_take, *]) <;> (first | done | rfl | omega | (simp; done) | (simp; omega)), by (try simp only [go_sem, ↓reduceIte, Nat.reduceEqDiff, Nat.reduceAdd, reduceCtorEq, CCT, CCv, CCr, CCk, Nat.reduceBNe, Nat.reduceLeDiff, Nat.reduceLT, beqI, bneI, List.length_map, decide_true, decide_false, Int.reduceEq, Int.reduceLT, Int.reduceLE, Int.reduceGE, Int.reduceGT, not_true_eq_false, not_false_eq_true, Bool.and_true, Bool.true_and, Bool.and_false, Bool.false_and, and_true, true_and, and_self, Bool.not_not, Int.toNat_natCast, List.length_take, *]) <;> (first | done | rfl | omega | (simp; done) | (simp; omega)), by (try simp only [go_sem, ↓reduceIte, Nat.reduceEqDiff, Nat.reduceAdd, reduceCtorEq, CCT, CCv, CCr, CCk, Nat.reduceBNe, Nat.reduceLeDiff, Nat.reduceLT, beqI, bneI, List.length_map, decide_true, decide_false, Int.reduceEq, Int.reduceLT, Int.reduceLE, Int.reduceGE, Int.reduceGT, not_true_eq_false, not_false_eq_true, Bool.and_true, Bool.true_and, Bool.and_false, Bool.false_and, and_true, true_and, and_self, Bool.not_not, Int.toNat_natCast, List.length_take, *]) <;> (first | done | rfl | omega | (simp; done) | (simp; omega)), ps[k + 1], by (try simp only [go_sem, ↓reduceIte, Nat.reduceEqDiff, Nat.reduceAdd, reduceCtorEq, CCT, CCv, CCr, CCk, Nat.reduceBNe, Nat.reduceLeDiff, Nat.reduceLT, beqI, bneI, List.length_map, decide_true, decide_false, Int.reduceEq, Int.reduceLT, Int.reduceLE, Int.reduceGE, Int.reduceGT, not_true_eq_false, not_false_eq_true, Bool.and_true, Bool.true_and, Bool.and_false, Bool.false_and, and_true, true_and, and_self, Bool.not_not, Int.toNat_natCast, List.length_take, *]) <;> (first | done | rfl | omega | (simp; done) | (simp; omega)), fun _ => rfl, fun h => by omega⟩
      · have hl2 : k + 1 = ps.length := by omega
        have hlt3 := s4 hl2
        simp only [go_sem, ↓reduceIte, Nat.reduceEqDiff, Nat.reduceAdd, reduceCtorEq, CCT, CCv, CCr, CCk, Nat.reduceBNe, Nat.reduceLeDiff, Nat.reduceLT, beqI, bneI, List.length_map, decide_true, decide_false, Int.reduceEq, Int.reduceLT, Int.reduceLE, Int.reduceGE, Int.reduceGT, not_true_eq_false, not_false_eq_true, Bool.and_true, Bool.true_and, Bool.and_false, Bool.false_and, and_true, true_and, and_self, Bool.not_not, h0, h3, h6, h7, h8, h10, h11, hil, hlt, hwrap2, hl]
        refine wsl_idx hsl ty_33 (by omega) hget ?_
        simp only [go_sem, ↓reduceIte, Nat.reduceEqDiff, Nat.reduceAdd, reduceCtorEq, CCT, CCv, CCr, CCk, Nat.reduceBNe, Nat.reduceLeDiff, Nat.reduceLT, beqI, bneI, List.length_map, decide_true, decide_false, Int.reduceEq, Int.reduceLT, Int.reduceLE, Int.reduceGE, Int.reduceGT, not_true_eq_false, not_false_eq_true, Bool.and_true, Bool.true_and, Bool.and_false, Bool.false_and, and_true, true_and, and_self, Bool.not_not, h0, h3, h6, h7, h8, h10, h11, hil, hlt, hwrap2, hl, show ¬ n ≤ ps[k] by omega]
        refine hK2 _ _ ?_
        exact ⟨by (try simp only [go_sem, ↓reduceIte, Nat.reduceEqDiff, Nat.reduceAdd, reduceCtorEq, CCT, CCv, CCr, CCk, Nat.reduceBNe, Nat.reduceLeDiff, Nat.reduceLT, beqI, bneI, List.length_map, decide_true, decide_false, Int.reduceEq, Int.reduceLT, Int.reduceLE, Int.reduceGE, Int.reduceGT, not_true_eq_false, not_false_eq_true, Bool.and_true, Bool.true_and, Bool.and_false, Bool.false_and, and_true, true_and, and_self, Bool.not_not, Int.toNat_natCast, List.length_take, *]) <;> (first | done | rfl | omega | (simp; done) | (simp; omega)), by (try simp only [go_sem, ↓reduceIte, Nat.reduceEqDiff, Nat.reduceAdd, reduceCtorEq, CCT, CCv, CCr, CCk, Nat.reduceBNe, Nat.reduceLeDiff, Nat.reduceLT, beqI, bneI, List.length_map, decide_true, decide_false, Int.reduceEq, Int.reduceLT, Int.reduceLE, Int.reduceGE, Int.reduceGT, not_true_eq_false, not_false_eq_true, Bool.and_true, Bool.true_and, Bool.and_false, Bool.false_and, and_true, true_and, and_self, Bool.not_not, Int.toNat_natCast, List.length_take, *]) <;> (first | done | rfl | omega | (simp; done) | (simp; omega)), by (try simp only [go_sem, ↓reduceIte, Nat.reduceEqDiff, Nat.reduceAdd, reduceCtorEq, CCT, CCv, CCr, CCk, Nat.reduceBNe, Nat.reduceLeDiff, Nat.reduceLT, beqI, bneI, List.length_map, decide_true, decide_false, Int.reduceEq, Int.reduceLT, Int.reduceLE, Int.reduceGE, Int.reduceGT, not_true_eq_false, not_false_eq_true, Bool.and_true, Bool.true_and, Bool.and_false, Bool.false_and, and_true, true_and, and_self, Bool.not_not, Int.toNat_natCast, List.length_take, *]) <;> (first | done | rfl | omega | (simp; done) | (simp; omega)), by (try simp only [go_sem, ↓reduceIte, Nat.reduceEqDiff, Nat.reduceAdd, reduceCtorEq, CCT, CCv, CCr, CCk, Nat.reduceBNe, Nat.reduceLeDiff, Nat.reduceLT, beqI, bneI, List.length_map, decide_true, decide_false, Int.reduceEq, Int.reduceLT, Int.reduceLE, Int.reduceGE, Int.reduceGT, not_true_eq_false, not_false_eq_true, Bool.and_true, Bool.true_and, Bool.and_false, Bool.false_and, and_true, true_and, and_self, Bool.not_not, Int.toNat_natCast, List.length_take, *]) <;> (first | done | rfl | omega | (simp; done) | (simp; omega)), by (try simp only [go_sem, ↓reduceIte, Nat.reduceEqDiff, Nat.reduceAdd, reduceCtorEq, CCT, CCv, CCr, CCk, Nat.reduceBNe, Nat.reduceLeDiff, Nat.reduceLT, beqI, bneI, List.length_map, decide_true, decide_false, Int.reduceEq, Int.reduceLT, Int.reduceLE, Int.reduceGE, Int.reduceGT, not_true_eq_false, not_false_eq_true, Bool.and_true, Bool.true_and, Bool.and_false, Bool.false_and, and_true, true_and, and_self, Bool.not_not, Int.toNat_natCast, List.length_take, *]) <;> (first | done | rfl | omega | (simp; done) | (simp; omega)), by (try simp only [go_sem, ↓reduceIte, Nat.reduceEqDiff, Nat.reduceAdd, reduceCtorEq, CCT, CCv, CCr, CCk, Nat.reduceBNe, Nat.reduceLeDiff, Nat.reduceLT, beqI, bneI, List.length_map, decide_true, decide_false, Int.reduceEq, Int.reduceLT, Int.reduceLE, Int.reduceGE, Int.reduceGT, not_true_eq_false, not_false_eq_true, Bool.and_true, Bool.true_and, Bool.and_false, Bool.false_and, and_true, true_and, and_self, Bool.not_not, Int.toNat_natCast, List.length_take, *]) <;> (first | done | rfl | omega | (simp; done) | (simp; omega)), n, by (try simp only [go_sem, ↓reduceIte, Nat.reduceEqDiff, Nat.reduceAdd, reduceCtorEq, CCT, CCv, CCr, CCk, Nat.reduceBNe, Nat.reduceLeDiff, Nat.reduceLT, beqI, bneI, List.length_map, decide_true, decide_false, Int.reduceEq, Int.reduceLT, Int.reduceLE, Int.reduceGE, Int.reduceGT, not_true_eq_false, not_false_eq_true, Bool.and_true, Bool.true_and, Bool.and_false, Bool.false_and, and_true, true_and, and_self, Bool.not_not, Int.toNat_natCast, List.length_take, *]) <;> (first | done | rfl | omega | (simp; done) | (simp; omega)), fun h => by omega, fun _ => rfl⟩
    · clear hr hx
      rintro ρ s ⟨h0, h3, h6, h7, h8, h11, a, h10, _, ha⟩ K2 hx hr
      have hlt : ¬ (ps.length : Int) < (ps.length : Int) := by omega
      have ha := ha rfl
      subst ha
      simp only [go_sem, ↓reduceIte, Nat.reduceEqDiff, Nat.reduceAdd, reduceCtorEq, CCT, CCv, CCr, CCk, Nat.reduceBNe, Nat.reduceLeDiff, Nat.reduceLT, beqI, bneI, List.length_map, decide_true, decide_false, Int.reduceEq, Int.reduceLT, Int.reduceLE, Int.reduceGE, Int.reduceGT, not_true_eq_false, not_false_eq_true, Bool.and_true, Bool.true_and, Bool.and_false, Bool.false_and, and_true, true_and, and_self, Bool.not_not, h0, h3, h6, h7, h8, h10, h11]
      refine wsl_len hsl ty_33 ?_
      simp only [go_sem, ↓reduceIte, Nat.reduceEqDiff, Nat.reduceAdd, reduceCtorEq, CCT, CCv, CCr, CCk, Nat.reduceBNe, Nat.reduceLeDiff, Nat.reduceLT, beqI, bneI, List.length_map, decide_true, decide_false, Int.reduceEq, Int.reduceLT, Int.reduceLE, Int.reduceGE, Int.reduceGT, not_true_eq_false, not_false_eq_true, Bool.and_true, Bool.true_and, Bool.and_false, Bool.false_and, and_true, true_and, and_self, Bool.not_not, hx, h0, h3, h6, h7, h8, h10, h11, hil, hlt, hwrap]
      refine hK _ _ ?_
      exact ⟨by (try simp only [go_sem, ↓reduceIte, Nat.reduceEqDiff, Nat.reduceAdd, reduceCtorEq, CCT, CCv, CCr, CCk, Nat.reduceBNe, Nat.reduceLeDiff, Nat.reduceLT, beqI, bneI, List.length_map, decide_true, decide_false, Int.reduceEq, Int.reduceLT, Int.reduceLE, Int.reduceGE, Int.reduceGT, not_true_eq_false, not_false_eq_true, Bool.and_true, Bool.true_and, Bool.and_false, Bool.false_and, and_true, true_and, and_self, Bool.not_not, Int.toNat_natCast, List.length_take, *]) <;> (first | done | rfl | omega | (simp; done) | (simp; omega)), by (try simp only [go_sem, ↓reduceIte, Nat.reduceEqDiff, Nat.reduceAdd, reduceCtorEq, CCT, CCv, CCr, CCk, Nat.reduceBNe, Nat.reduceLeDiff, Nat.reduceLT, beqI, bneI, List.length_map, decide_true, decide_false, Int.reduceEq, Int.reduceLT, Int.reduceLE, Int.reduceGE, Int.reduceGT, not_true_eq_false, not_false_eq_true, Bool.and_true, Bool.true_and, Bool.and_false, Bool.false_and, and_true, true_and, and_self, Bool.not_not, Int.toNat_natCast, List.length_take, *]) <;> (first | done | rfl | omega | (simp; done) | (simp; omega)), by (try simp only [go_sem, ↓reduceIte, Nat.reduceEqDiff, Nat.reduceAdd, reduceCtorEq, CCT, CCv, CCr, CCk, Nat.reduceBNe, Nat.reduceLeDiff, Nat.reduceLT, beqI, bneI, List.length_map, decide_true, decide_false, Int.reduceEq, Int.reduceLT, Int.reduceLE, Int.reduceGE, Int.reduceGT, not_true_eq_false, not_false_eq_true, Bool.and_true, Bool.true_and, Bool.and_false, Bool.false_and, and_true, true_and, and_self, Bool.not_not, Int.toNat_natCast, List.length_take, *]) <;> (first | done | rfl | omega | (simp; done) | (simp; omega))⟩
    · show ps.length < 0 + 9223372036854775900
      omega
    · refine ⟨by (try simp only [go_sem, ↓reduceIte, Nat.reduceEqDiff, Nat.reduceAdd, reduceCtorEq, CCT, CCv, CCr, CCk, Nat.reduceBNe, Nat.reduceLeDiff, Nat.reduceLT, beqI, bneI, List.length_map, decide_true, decide_false, Int.reduceEq, Int.reduceLT, Int.reduceLE, Int.reduceGE, Int.reduceGT, not_true_eq_false, not_false_eq_true, Bool.and_true, Bool.true_and, Bool.and_false, Bool.false_and, and_true, true_and, and_self, Bool.not_not, Int.toNat_natCast, List.length_take, *]) <;> (first | done | rfl | omega | (simp; done) | (simp; omega)), by (try simp only [go_sem, ↓reduceIte, Nat.reduceEqDiff, Nat.reduceAdd, reduceCtorEq, CCT, CCv, CCr, CCk, Nat.reduceBNe, Nat.reduceLeDiff, Nat.reduceLT, beqI, bneI, List.length_map, decide_true, decide_false, Int.reduceEq, Int.reduceLT, Int.reduceLE, Int.reduceGE, Int.reduceGT, not_true_eq_false, not_false_eq_true, Bool.and_true, Bool.true_and, Bool.and_false, Bool.false_and, and_true, true_and, and_self, Bool.not_not, Int.toNat_natCast, List.length_take, *]) <;> (first | done | rfl | omega | (simp; done) | (simp; omega)), by (try simp only [go_sem, ↓reduceIte, Nat.reduceEqDiff, Nat.reduceAdd, reduceCtorEq, CCT, CCv, CCr, CCk, Nat.reduceBNe, Nat.reduceLeDiff, Nat.reduceLT, beqI, bneI, List.length_map, decide_true, decide_false, Int.reduceEq, Int.reduceLT, Int.reduceLE, Int.reduceGE, Int.reduceGT, not_true_eq_false, not_false_eq_true, Bool.and_true, Bool.true_and, Bool.and_false, Bool.false_and, and_true, true_and, and_self, Bool.not_not, Int.toNat_natCast, List.length_take, *]) <;> (first | done | rfl | omega | (simp; done) | (simp; omega)), by (try simp only [go_sem, ↓reduceIte, Nat.reduceEqDiff, Nat.reduceAdd, reduceCtorEq, CCT, CCv, CCr, CCk, Nat.reduceBNe, Nat.reduceLeDiff, Nat.reduceLT, beqI, bneI, List.length_map, decide_true, decide_false, Int.reduceEq, Int.reduceLT, Int.reduceLE, Int.reduceGE, Int.reduceGT, not_true_eq_false, not_false_eq_true, Bool.and_true, Bool.true_and, Bool.and_false, Bool.false_and, and_true, true_and, and_self, Bool.not_not, Int.toNat_natCast, List.length_take, *]) <;> (first | done | rfl | omega | (simp; done) | (simp; omega)), by (try simp only [go_sem, ↓reduceIte, Nat.reduceEqDiff, Nat.reduceAdd, reduceCtorEq, CCT, CCv, CCr, CCk, Nat.reduceBNe, Nat.reduceLeDiff, Nat.reduceLT, beqI, bneI, List.length_map, decide_true, decide_false, Int.reduceEq, Int.reduceLT, Int.reduceLE, Int.reduceGE, Int.reduceGT, not_true_eq_false, not_false_eq_true, Bool.and_true, Bool.true_and, Bool.and_false, Bool.false_and, and_true, true_and, and_self, Bool.not_not, Int.toNat_natCast, List.length_take, *]) <;> (first | done | rfl | omega | (simp; done) | (simp; omega)), by (try simp only [go_sem, ↓reduceIte, Nat.reduceEqDiff, Nat.reduceAdd, reduceCtorEq, CCT, CCv, CCr, CCk, Nat.reduceBNe, Nat.reduceLeDiff, Nat.reduceLT, beqI, bneI, List.length_map, decide_true, decide_false, Int.reduceEq, Int.reduceLT, Int.reduceLE, Int.reduceGE, Int.reduceGT, not_true_eq_false, not_false_eq_true, Bool.and_true, Bool.true_and, Bool.and_false, Bool.false_and, and_true, true_and, and_self, Bool.not_not, Int.toNat_natCast, List.length_take, *]) <;> (first | done | rfl | omega | (simp; done) | (simp; omega)), 8, by (try simp only [go_sem, ↓reduceIte, Nat.reduceEqDiff, Nat.reduceAdd, reduceCtorEq, CCT, CCv, CCr, CCk, Nat.reduceBNe, Nat.reduceLeDiff, Nat.reduceLT, beqI, bneI, List.length_map, decide_true, decide_false, Int.reduceEq, Int.reduceLT, Int.reduceLE, Int.reduceGE, Int.reduceGT, not_true_eq_false, not_false_eq_true, Bool.and_true, Bool.true_and, Bool.and_false, Bool.false_and, and_true, true_and, and_self, Bool.not_not, Int.toNat_natCast, List.length_take, *]) <;> (first | done | rfl | omega | (simp; done) | (simp; omega)), fun h => ((steps_at p2 h).2.1 rfl).symm, fun h => ?_⟩
      have : ps = [] := by cases ps; rfl; simp at h
      subst this
      exact p2
  · rintro ρ s ⟨h0, h3, h6⟩ K hx hr
    have hlt : ¬ (l.length : Int) < (l.length : Int) := by omega
    simp only [go_sem, ↓reduceIte, Nat.reduceEqDiff, Nat.reduceAdd, reduceCtorEq, CCT, CCv, CCr, CCk, Nat.reduceBNe, Nat.reduceLeDiff, Nat.reduceLT, beqI, bneI, List.length_map, decide_true, decide_false, Int.reduceEq, Int.reduceLT, Int.reduceLE, Int.reduceGE, Int.reduceGT, not_true_eq_false, not_false_eq_true, Bool.and_true, Bool.true_and, Bool.and_false, Bool.false_and, and_true, true_and, and_self, Bool.not_not, hx, h0, h3, h6, hlt]
    rfl
  · show l.length < 0 + 9223372036854775900
    omega
  · exact ⟨by (try simp only [go_sem, ↓reduceIte, Nat.reduceEqDiff, Nat.reduceAdd, reduceCtorEq, CCT, CCv, CCr, CCk, Nat.reduceBNe, Nat.reduceLeDiff, Nat.reduceLT, beqI, bneI, List.length_map, decide_true, decide_false, Int.reduceEq, Int.reduceLT, Int.reduceLE, Int.reduceGE, Int.reduceGT, not_true_eq_false, not_false_eq_true, Bool.and_true, Bool.true_and, Bool.and_false, Bool.false_and, and_true, true_and, and_self, Bool.not_not, Int.toNat_natCast, List.length_take, *]) <;> (first | done | rfl | omega | (simp; done) | (simp; omega)), by (try simp only [go_sem, ↓reduceIte, Nat.reduceEqDiff, Nat.reduceAdd, reduceCtorEq, CCT, CCv, CCr, CCk, Nat.reduceBNe, Nat.reduceLeDiff, Nat.reduceLT, beqI, bneI, List.length_map, decide_true, decide_false, Int.reduceEq, Int.reduceLT, Int.reduceLE, Int.reduceGE, Int.reduceGT, not_true_eq_false, not_false_eq_true, Bool.and_true, Bool.true_and, Bool.and_false, Bool.false_and, and_true, true_and, and_self, Bool.not_not, Int.toNat_natCast, List.length_take, *]) <;> (first | done | rfl | omega | (simp; done) | (simp; omega)), by (try simp only [go_sem, ↓reduceIte, Nat.reduceEqDiff, Nat.reduceAdd, reduceCtorEq, CCT, CCv, CCr, CCk, Nat.reduceBNe, Nat.reduceLeDiff, Nat.reduceLT, beqI, bneI, List.length_map, decide_true, decide_false, Int.reduceEq, Int.reduceLT, Int.reduceLE, Int.reduceGE, Int.reduceGT, not_true_eq_false, not_false_eq_true, Bool.and_true, Bool.true_and, Bool.and_false, Bool.false_and, and_true, true_and, and_self, Bool.not_not, Int.toNat_natCast, List.length_take, *]) <;> (first | done | rfl | omega | (simp; done) | (simp; omega))⟩
theorem apart_law (d : Nat) (a : AV) (h : Arg T 22 a) : ∃ σ', evalF Try.prog CC (d + 60) 5 [a] St.empty = some (.bool true, σ') := by
  obtain ⟨b, l, rfl, h1, h2, _⟩ := arg_typs h
  exact ⟨_, law5 d b l h1⟩
end Go.Proofs.Ytjembadjfiohpaa.Va
