/- chapter 4's rows of numbers, chapter 5's bytes -/
import Derived.Test.YtjembadjfiohpaaFivAp
namespace Go.Proofs.Ytjembadjfiohpaa.Va
open Go
set_option linter.unusedVariables false
set_option linter.unusedSimpArgs false
set_option maxRecDepth 100000
section
variable {R : Type} {P : Option R → Prop}
/-- Append to a row that is not empty. -/
theorem gfx {T : Tab} {mr : Mem} {σ : St} {t e : TypeId} {xs ys : List AV} {v x : AV} {kk : Option Nat} {k : AV → St → Option R} {y : Lz R} (hg : Gf e xs σ v kk) (hx : xs ≠ []) (ht : T.ty t = some (.slice e)) (hn : @newsOf T mr false e x = some ys) (hr : roomy T e (xs.length + ys.length) = true)
    (h : Wp P (k (.list e false (xs ++ ys) (some (σ.ntok + 1))) (σ.tokNew kk))) : Wp P (@br R (noView v) ⟨@bnd2 R (@aAppend T mr ⟨σ⟩ false t v x) ⟨k⟩⟩ y) := by
  have hs : isSliceT T t = true := by simp [isSliceT, ht]
  have he : elemT T t = e := by simp [elemT, ht]
  rcases hg with (⟨rfl, rfl, rfl⟩ | ⟨h0, tk, rfl, rfl, h1, h2⟩) | ⟨rfl, rfl⟩
  · exact absurd rfl hx
  · refine W.br_ok rfl ?_
    rw [app_list2, hs, he, hn]
    simp only [BEq.rfl, Bool.and_self, br_true, bnd_some, hr, h1, Bool.false_and]
    exact h
  · refine W.br_ok rfl ?_
    rw [app_full2, hs, he, hn]
    simp only [BEq.rfl, Bool.and_self, br_true, bnd_some, hr, Bool.false_and]
    exact h
end
theorem Gf.list {e : TypeId} {xs : List AV} {σ : St} {v : AV} {k : Option Nat} (h : Gf e xs σ v k) (hx : xs ≠ []) : ∃ tt, v = .list e false xs (some tt) := by
  rcases h with (⟨h, _, _⟩ | ⟨_, tk, rfl, rfl, _⟩) | ⟨_, rfl⟩
  · exact absurd h hx
  · exact ⟨_, rfl⟩
  · exact ⟨_, rfl⟩
theorem tok_or {k : Option Nat} : k = none ∨ none ≠ k := by cases k <;> simp
/-- What a call that makes a row at most does to another row. -/
theorem Gf.call {e : TypeId} {xs : List AV} {σ σ' : St} {v : AV} {k kk : Option Nat} (h : Gf e xs σ v k) (hs : σ' = σ ∧ kk = none ∨ σ' = σ.tokNew none ∧ kk = some σ.ntok) : Gf e xs σ' v k := by
  rcases hs with ⟨rfl, _⟩ | ⟨rfl, _⟩
  · exact h
  · exact h.tokNew tok_or
theorem Gw.call {e : TypeId} {xs : List AV} {σ σ' : St} {v : AV} {k kk : Option Nat} (h : Gw e xs σ v k) (hs : σ' = σ ∧ kk = none ∨ σ' = σ.tokNew none ∧ kk = some σ.ntok) : Gw e xs σ' v k := by
  rcases hs with ⟨rfl, _⟩ | ⟨rfl, _⟩
  · exact h
  · exact h.tokNew tok_or
theorem valSt_grow {e : TypeId} {xs : List AV} {k : IntKind} {n : Int} : valSt (.tup [growR e xs, .int k n]) = valSt (growR e xs) := by unfold growR; split <;> rfl
def intOk (n : Int) : Bool := decide (0 ≤ n) && decide (n ≤ 2147483647)
def intsB (l : List Int) : List Int := l.flatMap fun n => numL n.toNat
def intsR (xs : List Int) : List Int × Int := if 1000 < xs.length then ([], 11) else if xs.all intOk = true then (numL xs.length ++ intsB xs, 0) else ([], 1)
theorem intsB_len : ∀ {l : List Int}, (∀ x ∈ l, intOk x = true) → (intsB l).length ≤ 5 * l.length
  | [], _ => by simp [intsB]
  | x :: l, h => by
    have h1 := h x (by simp)
    simp only [intOk, Bool.and_eq_true, decide_eq_true_eq] at h1
    have h2 := numL_len 4 x.toNat (by omega)
    have h3 := intsB_len (l := l) fun y hy => h y (by simp [hy])
    simp only [intsB, List.flatMap_cons, List.length_append, List.length_cons] at h3 ⊢
    omega
theorem intsB_snoc (l : List Int) (x : Int) : intsB (l ++ [x]) = intsB l ++ numL x.toNat := by simp [intsB]
theorem Ints_c (d : Nat) (b : Bool) (xs : List Int) : evalF Try.prog CC (d + 2) 30 [.list 3 b (intsA xs) none] St.empty = some (.tup [growR 5 (bytesI (intsR xs).1), .int .i64 (intsR xs).2], valSt (growR 5 (bytesI (intsR xs).1))) := by
  generalize hX : some ((.tup [growR 5 (bytesI (intsR xs).1), .int .i64 (intsR xs).2], valSt (growR 5 (bytesI (intsR xs).1))) : AV × St) = X
  have hil : (intsA xs).length = xs.length := by simp [intsA]
  refine wp_eq ?_
  rw [run_30 _ _ _ (by simp)]; unfold Try.f30; simp only [Option.getD_some]
  simp only [go_sem, ↓reduceIte, Nat.reduceEqDiff, Nat.reduceAdd, reduceCtorEq, CCT, CCv, CCr, CCk, Nat.reduceBNe, Nat.reduceLeDiff, Nat.reduceLT, beqI, bneI, List.length_map, decide_true, decide_false, Int.reduceEq, Int.reduceLT, Int.reduceLE, Int.reduceGE, Int.reduceGT, not_true_eq_false, not_false_eq_true, Bool.and_true, Bool.true_and, Bool.and_false, Bool.false_and, and_true, true_and, and_self, Bool.not_not, hil]
  refine W.br_dec (fun h1000 => ?_) (fun h1000 => ?_)
  · have : intsR xs = ([], 11) := by rw [intsR, if_pos (by omega)]
    rw [this] at hX
    simp only [go_sem, ↓reduceIte, Nat.reduceEqDiff, Nat.reduceAdd, reduceCtorEq, CCT, CCv, CCr, CCk, Nat.reduceBNe, Nat.reduceLeDiff, Nat.reduceLT, beqI, bneI, List.length_map, decide_true, decide_false, Int.reduceEq, Int.reduceLT, Int.reduceLE, Int.reduceGE, Int.reduceGT, not_true_eq_false, not_false_eq_true, Bool.and_true, Bool.true_and, Bool.and_false, Bool.false_and, and_true, true_and, and_self, Bool.not_not, h1000, hil]
    exact hX
  have hw : IntKind.u64.wrap (xs.length : Int) = (xs.length : Nat) := by rw [IntKind.wrap_u64]; omega
  have hlen : (numL xs.length).length ≤ 2 := numL_len 1 _ (by omega)
  simp only [go_sem, ↓reduceIte, Nat.reduceEqDiff, Nat.reduceAdd, reduceCtorEq, CCT, CCv, CCr, CCk, Nat.reduceBNe, Nat.reduceLeDiff, Nat.reduceLT, beqI, bneI, List.length_map, decide_true, decide_false, Int.reduceEq, Int.reduceLT, Int.reduceLE, Int.reduceGE, Int.reduceGT, not_true_eq_false, not_false_eq_true, Bool.and_true, Bool.true_and, Bool.and_false, Bool.false_and, and_true, true_and, and_self, Bool.not_not, h1000, hil, hw]
  refine W.call_gw (Number_c d xs.length (by omega)) rfl ?_
  intro v σ kk hg hσ
  simp only [go_sem, ↓reduceIte, Nat.reduceEqDiff, Nat.reduceAdd, reduceCtorEq, CCT, CCv, CCr, CCk, Nat.reduceBNe, Nat.reduceLeDiff, Nat.reduceLT, beqI, bneI, List.length_map, decide_true, decide_false, Int.reduceEq, Int.reduceLT, Int.reduceLE, Int.reduceGE, Int.reduceGT, not_true_eq_false, not_false_eq_true, Bool.and_true, Bool.true_and, Bool.and_false, Bool.false_and, and_true, true_and, and_self, Bool.not_not, h1000, hil, hw]
  clear hσ
  refine W.iter_rule (fun i ρ σ => ρ 14 = .list 3 b (intsA xs) none ∧ ρ 15 = .int .i64 xs.length ∧ ρ 16 = .int .i64 i ∧ (∀ x ∈ xs.take i, intOk x = true) ∧ ∃ kk, Gw 5 (bytesI (numL xs.length ++ intsB (xs.take i))) σ (ρ 4) kk) xs.length ?_ ?_ _ 0 _ _ (Nat.zero_le _) ?_ ?_
  · clear hg
    rintro i ρ σ hi ⟨h14, h15, h16, hall, kk, hg⟩ K hK hx hr
    have hlt : (i : Int) < (xs.length : Int) := by omega
    have hwrap : IntKind.i64.wrap ((i : Int) + 1) = ((i + 1 : Nat) : Int) := by rw [IntKind.wrap_i64]; omega
    have hidx : idxOk (i : Int) xs.length = true := by simp [idxOk]; omega
    have hget : (intsA xs)[((i : Nat) : Int).toNat]? = some (.int .i64 xs[i]) := by simp [intsA, hi]
    have hsn : xs.take (i + 1) = xs.take i ++ [xs[i]] := List.take_succ_eq_append_getElem hi
    have hmem := List.getElem_mem hi
    have hbl := intsB_len hall
    rw [List.length_take] at hbl
    generalize xs[i] = x at hget hsn hmem
    have hbad : intOk x = false → intsR xs = ([], 1) := by
      intro hb
      have : xs.all intOk = false := by rw [List.all_eq_false]; exact ⟨x, hmem, by simp [hb]⟩
      rw [intsR, if_neg (by omega), this]
      rfl
    by_cases hb0 : x < 0
    · rw [hbad (by simp [intOk]; omega)] at hX
      simp only [go_sem, ↓reduceIte, Nat.reduceEqDiff, Nat.reduceAdd, reduceCtorEq, CCT, CCv, CCr, CCk, Nat.reduceBNe, Nat.reduceLeDiff, Nat.reduceLT, beqI, bneI, List.length_map, decide_true, decide_false, Int.reduceEq, Int.reduceLT, Int.reduceLE, Int.reduceGE, Int.reduceGT, not_true_eq_false, not_false_eq_true, Bool.and_true, Bool.true_and, Bool.and_false, Bool.false_and, and_true, true_and, and_self, Bool.not_not, h14, h15, h16, hlt, hil, hidx, hget, hb0, hr]
      exact hX
    by_cases hb1 : x > 2147483647
    · rw [hbad (by simp [intOk]; omega)] at hX
      simp only [go_sem, ↓reduceIte, Nat.reduceEqDiff, Nat.reduceAdd, reduceCtorEq, CCT, CCv, CCr, CCk, Nat.reduceBNe, Nat.reduceLeDiff, Nat.reduceLT, beqI, bneI, List.length_map, decide_true, decide_false, Int.reduceEq, Int.reduceLT, Int.reduceLE, Int.reduceGE, Int.reduceGT, not_true_eq_false, not_false_eq_true, Bool.and_true, Bool.true_and, Bool.and_false, Bool.false_and, and_true, true_and, and_self, Bool.not_not, h14, h15, h16, hlt, hil, hidx, hget, hb0, hb1, hr]
      exact hX
    have e1 : IntKind.u64.wrap x = (x.toNat : Nat) := by rw [IntKind.wrap_u64]; omega
    have hl5 := numL_len 4 x.toNat (by omega)
    simp only [go_sem, ↓reduceIte, Nat.reduceEqDiff, Nat.reduceAdd, reduceCtorEq, CCT, CCv, CCr, CCk, Nat.reduceBNe, Nat.reduceLeDiff, Nat.reduceLT, beqI, bneI, List.length_map, decide_true, decide_false, Int.reduceEq, Int.reduceLT, Int.reduceLE, Int.reduceGE, Int.reduceGT, not_true_eq_false, not_false_eq_true, Bool.and_true, Bool.true_and, Bool.and_false, Bool.false_and, and_true, true_and, and_self, Bool.not_not, h14, h15, h16, hlt, hil, hidx, hget, hb0, hb1, e1]
    refine W.call_gw (Number_c d x.toNat (by omega)) rfl ?_
    intro v' σ' kk' hg' hσ'
    have hg2 := hg.call hσ'
    simp only [go_sem, ↓reduceIte, Nat.reduceEqDiff, Nat.reduceAdd, reduceCtorEq, CCT, CCv, CCr, CCk, Nat.reduceBNe, Nat.reduceLeDiff, Nat.reduceLT, beqI, bneI, List.length_map, decide_true, decide_false, Int.reduceEq, Int.reduceLT, Int.reduceLE, Int.reduceGE, Int.reduceGT, not_true_eq_false, not_false_eq_true, Bool.and_true, Bool.true_and, Bool.and_false, Bool.false_and, and_true, true_and, and_self, Bool.not_not, h14, h15, h16, hlt, hil, hidx, hget, hb0, hb1, e1]
    refine W.gw_app (T := T) (t := 43) hg2 (ys := bytesI (numL x.toNat)) (by simp [bytesI, numL_ne]) rfl ?_ ?_ ?_
    · exact gw_news hg'
    · refine roomy_of ?_ (by decide)
      simp only [bytesI, List.length_map, List.length_append]
      omega
    simp only [go_sem, ↓reduceIte, Nat.reduceEqDiff, Nat.reduceAdd, reduceCtorEq, CCT, CCv, CCr, CCk, Nat.reduceBNe, Nat.reduceLeDiff, Nat.reduceLT, beqI, bneI, List.length_map, decide_true, decide_false, Int.reduceEq, Int.reduceLT, Int.reduceLE, Int.reduceGE, Int.reduceGT, not_true_eq_false, not_false_eq_true, Bool.and_true, Bool.true_and, Bool.and_false, Bool.false_and, and_true, true_and, and_self, Bool.not_not, h14, h15, h16, hlt, hil, hidx, hget, hb0, hb1, e1, hwrap]
    refine hK _ _ ?_
    refine ⟨by (try simp only [go_sem, ↓reduceIte, Nat.reduceEqDiff, Nat.reduceAdd, reduceCtorEq, CCT, CCv, CCr, CCk, Nat.reduceBNe, Nat.reduceLeDiff, Nat.reduceLT, beqI, bneI, List.length_map, decide_true, decide_false, Int.reduceEq, Int.reduceLT, Int.reduceLE, Int.reduceGE, Int.reduceGT, not_true_eq_false, not_false_eq_true, Bool.and_true, Bool.true_and, Bool.and_false, Bool.false_and, and_true, true_and, and_self, Bool.not_not, Int.toNat_natCast, List.length_take, *]) <;> (first | done | rfl | omega | (simp; done) | (simp; omega)), by (try simp only [go_sem, ↓reduceIte, Nat.reduceEqDiff, Nat.reduceAdd, reduceCtorEq, CCT, CCv, CCr, CCk, Nat.reduceBNe, Nat.reduceLeDiff, Nat.reduceLT, beqI, bneI, List.length_map, decide_true, decide_false, Int.reduceEq, Int.reduceLT, Int.reduceLE, Int.reduceGE, Int.reduceGT, not_true_eq_false, not_false_eq_true, Bool.and_true, Bool.true_and, Bool.and_false, Bool.false_and, and_true, true_and, and_self, Bool.not_not, Int.toNat_natCast, List.length_take, *]) <;> (first | done | rfl | omega | (simp; done) | (simp; omega)), by (try simp only [go_sem, ↓reduceIte, Nat.reduceEqDiff, Nat.reduceAdd, reduceCtorEq, CCT, CCv, CCr, CCk, Nat.reduceBNe, Nat.reduceLeDiff, Nat.reduceLT, beqI, bneI, List.length_map, decide_true, decide_false, Int.reduceEq, Int.reduceLT, Int.reduceLE, Int.reduceGE, Int.reduceGT, not_true_eq_false, not_false_eq_true, Bool.and_true, Bool.true_and, Bool.and_false, Bool.false_and, and_true, true_and, and_self, Bool.not_not, Int.toNat_natCast, List.length_take, *]) <;> (first | done | rfl | omega | (simp; done) | (simp; omega)), ?_, some σ'.ntok, ?_⟩
    · intro y hy
      rw [hsn, List.mem_append, List.mem_singleton] at hy
      rcases hy with hy | rfl
      · exact hall y hy
      · simp [intOk]; omega
    · simp only [go_sem, ↓reduceIte, Nat.reduceEqDiff, Nat.reduceAdd, reduceCtorEq, CCT, CCv, CCr, CCk, Nat.reduceBNe, Nat.reduceLeDiff, Nat.reduceLT, beqI, bneI, List.length_map, decide_true, decide_false, Int.reduceEq, Int.reduceLT, Int.reduceLE, Int.reduceGE, Int.reduceGT, not_true_eq_false, not_false_eq_true, Bool.and_true, Bool.true_and, Bool.and_false, Bool.false_and, and_true, true_and, and_self, Bool.not_not, h14]
      have : bytesI (numL xs.length ++ intsB (xs.take (i + 1))) = bytesI (numL xs.length ++ intsB (xs.take i)) ++ bytesI (numL x.toNat) := by
        rw [hsn, intsB_snoc]; simp [bytesI]
      rw [this]
      exact .new (by simp [bytesI, numL_ne])
  · rintro ρ σ ⟨h14, h15, h16, hall, kk, hg⟩ K hx hr
    rw [List.take_length] at hall hg
    have hlt : ¬ (xs.length : Int) < (xs.length : Int) := by omega
    have : intsR xs = (numL xs.length ++ intsB xs, 0) := by
      rw [intsR, if_neg (by omega), if_pos (List.all_eq_true.2 hall)]
    rw [this] at hX
    simp only [go_sem, ↓reduceIte, Nat.reduceEqDiff, Nat.reduceAdd, reduceCtorEq, CCT, CCv, CCr, CCk, Nat.reduceBNe, Nat.reduceLeDiff, Nat.reduceLT, beqI, bneI, List.length_map, decide_true, decide_false, Int.reduceEq, Int.reduceLT, Int.reduceLE, Int.reduceGE, Int.reduceGT, not_true_eq_false, not_false_eq_true, Bool.and_true, Bool.true_and, Bool.and_false, Bool.false_and, and_true, true_and, and_self, Bool.not_not, hx, h14, h15, h16, hlt, hil, gw_comp hg]
    refine W.gw_ret_tup (vs := [.int .i64 0]) (us := [.int .i64 0]) hg rfl ?_
    rw [valSt_grow]
    exact hX
  · show xs.length < 0 + 9223372036854775900
    omega
  · refine ⟨by (try simp only [go_sem, ↓reduceIte, Nat.reduceEqDiff, Nat.reduceAdd, reduceCtorEq, CCT, CCv, CCr, CCk, Nat.reduceBNe, Nat.reduceLeDiff, Nat.reduceLT, beqI, bneI, List.length_map, decide_true, decide_false, Int.reduceEq, Int.reduceLT, Int.reduceLE, Int.reduceGE, Int.reduceGT, not_true_eq_false, not_false_eq_true, Bool.and_true, Bool.true_and, Bool.and_false, Bool.false_and, and_true, true_and, and_self, Bool.not_not, Int.toNat_natCast, List.length_take, *]) <;> (first | done | rfl | omega | (simp; done) | (simp; omega)), by (try simp only [go_sem, ↓reduceIte, Nat.reduceEqDiff, Nat.reduceAdd, reduceCtorEq, CCT, CCv, CCr, CCk, Nat.reduceBNe, Nat.reduceLeDiff, Nat.reduceLT, beqI, bneI, List.length_map, decide_true, decide_false, Int.reduceEq, Int.reduceLT, Int.reduceLE, Int.reduceGE, Int.reduceGT, not_true_eq_false, not_false_eq_true, Bool.and_true, Bool.true_and, Bool.and_false, Bool.false_and, and_true, true_and, and_self, Bool.not_not, Int.toNat_natCast, List.length_take, *]) <;> (first | done | rfl | omega | (simp; done) | (simp; omega)), by (try simp only [go_sem, ↓reduceIte, Nat.reduceEqDiff, Nat.reduceAdd, reduceCtorEq, CCT, CCv, CCr, CCk, Nat.reduceBNe, Nat.reduceLeDiff, Nat.reduceLT, beqI, bneI, List.length_map, decide_true, decide_false, Int.reduceEq, Int.reduceLT, Int.reduceLE, Int.reduceGE, Int.reduceGT, not_true_eq_false, not_false_eq_true, Bool.and_true, Bool.true_and, Bool.and_false, Bool.false_and, and_true, true_and, and_self, Bool.not_not, Int.toNat_natCast, List.length_take, *]) <;> (first | done | rfl | omega | (simp; done) | (simp; omega)), by simp, kk, ?_⟩
    simp only [go_sem, ↓reduceIte, Nat.reduceEqDiff, Nat.reduceAdd, reduceCtorEq, CCT, CCv, CCr, CCk, Nat.reduceBNe, Nat.reduceLeDiff, Nat.reduceLT, beqI, bneI, List.length_map, decide_true, decide_false, Int.reduceEq, Int.reduceLT, Int.reduceLE, Int.reduceGE, Int.reduceGT, not_true_eq_false, not_false_eq_true, Bool.and_true, Bool.true_and, Bool.and_false, Bool.false_and, and_true, true_and, and_self, Bool.not_not, hil]
    simpa [intsB] using hg
section
variable {R : Type} {P : Option R → Prop}
theorem call31 {d n : Nat} {σ : St} {ids : List Nat} {k : AV → St → Option R} (hn : n < 2 ^ 31) (hids : ids = [])
    (h : ∀ v σ' kk, Gf 5 (bytesI (numL n)) σ' v kk → (σ' = σ ∧ kk = none ∨ σ' = σ.tokNew none ∧ kk = some σ.ntok) → Wp P (k v σ')) :
    Wp P (@bnd2 R (evalF Try.prog CC (d + 5) 31 [.int .u64 n] St.empty) ⟨fun v s => @br R (noMem v) ⟨k v σ⟩ ⟨@br R false ⟨none⟩ ⟨@bnd2 R (retok s (killAll σ ids) v) ⟨k⟩⟩⟩⟩) := by
  by_cases h128 : n < 128
  · rw [refNumber_lt (d + 4) n h128]
    subst hids
    simp only [go_sem, ↓reduceIte, kill_nil]
    exact h _ σ none .lit (.inl ⟨rfl, rfl⟩)
  · have hne : bytesI (numL n) ≠ [] := by simp [bytesI, numL_ne]
    refine W.call_gw (xs := bytesI (numL n)) (e := 5) (by rw [refNumber_ge 3 d n (by omega) (by omega) h128]; simp [growR, hne, valSt, valSt1]) hids ?_
    intro v σ' kk hg hσ
    exact h v σ' kk (.inl hg) hσ
end
def textR (s : ByteArray) : List Int × Int := if nameB s = true then (textL s, 0) else ([], 1)
theorem Text_r (d : Nat) (s : ByteArray) : evalF Try.prog CC (d + 2) 29 [.str s] St.empty = some (.tup [growR 5 (bytesI (textR s).1), .int .i64 (textR s).2], valSt (growR 5 (bytesI (textR s).1))) := by
  rw [Text_c]
  cases h : nameB s
  · simp [textR, h, growR, bytesI, valSt, valSt1, St.empty]
  · simp [textR, h]
theorem textR_len (s : ByteArray) : (textR s).1.length ≤ 17 := by
  unfold textR
  split
  · rename_i h
    have hsz : 0 < s.size ∧ s.size ≤ 16 := by simp [nameB] at h; omega
    have hlen : (numL s.size).length ≤ 1 := numL_len 0 _ (by omega)
    have hs1 : (strI s).length = s.size := strI_len s
    simp only [textL, List.length_append]
    omega
  · simp
theorem refText_c (d : Nat) (s : ByteArray) (hs : s.size ≤ 9223372036854775807) : evalF Try.prog CC (d + 6) 32 [.str s] St.empty = some (.tup [growR 5 (bytesI (textR s).1), .int .i64 (textR s).2], valSt (growR 5 (bytesI (textR s).1))) := by
  generalize hX : some ((.tup [growR 5 (bytesI (textR s).1), .int .i64 (textR s).2], valSt (growR 5 (bytesI (textR s).1))) : AV × St) = X
  have hn := fun d => Name_c d s hs
  refine wp_eq ?_
  rw [run_32 _ _ _ (by simp)]; unfold Try.f32; simp only [Option.getD_some]
  simp only [go_sem, ↓reduceIte, Nat.reduceEqDiff, Nat.reduceAdd, reduceCtorEq, CCT, CCv, CCr, CCk, Nat.reduceBNe, Nat.reduceLeDiff, Nat.reduceLT, beqI, bneI, List.length_map, decide_true, decide_false, Int.reduceEq, Int.reduceLT, Int.reduceLE, Int.reduceGE, Int.reduceGT, not_true_eq_false, not_false_eq_true, Bool.and_true, Bool.true_and, Bool.and_false, Bool.false_and, and_true, true_and, and_self, Bool.not_not, hn]
  refine W.br_split (fun hb => ?_) (fun hb => ?_)
  · have hb : nameB s = false := by simpa using hb
    have : textR s = ([], 1) := by rw [textR, if_neg (by simp [hb])]
    rw [this] at hX
    simp only [go_sem, ↓reduceIte, Nat.reduceEqDiff, Nat.reduceAdd, reduceCtorEq, CCT, CCv, CCr, CCk, Nat.reduceBNe, Nat.reduceLeDiff, Nat.reduceLT, beqI, bneI, List.length_map, decide_true, decide_false, Int.reduceEq, Int.reduceLT, Int.reduceLE, Int.reduceGE, Int.reduceGT, not_true_eq_false, not_false_eq_true, Bool.and_true, Bool.true_and, Bool.and_false, Bool.false_and, and_true, true_and, and_self, Bool.not_not, hb]
    exact hX
  · have hb : nameB s = true := by simpa using hb
    have : textR s = (textL s, 0) := by rw [textR, if_pos hb]
    have hlen := textR_len s
    rw [this] at hX hlen
    dsimp only at hlen
    have hsz : 0 < s.size ∧ s.size ≤ 16 := by simp [nameB] at hb; omega
    have e1 : IntKind.u64.wrap (s.size : Int) = (s.size : Nat) := by rw [IntKind.wrap_u64]; omega
    simp only [go_sem, ↓reduceIte, Nat.reduceEqDiff, Nat.reduceAdd, reduceCtorEq, CCT, CCv, CCr, CCk, Nat.reduceBNe, Nat.reduceLeDiff, Nat.reduceLT, beqI, bneI, List.length_map, decide_true, decide_false, Int.reduceEq, Int.reduceLT, Int.reduceLE, Int.reduceGE, Int.reduceGT, not_true_eq_false, not_false_eq_true, Bool.and_true, Bool.true_and, Bool.and_false, Bool.false_and, and_true, true_and, and_self, Bool.not_not, hb, e1]
    refine call31 (by omega) rfl ?_
    intro v σ kk hg hσ
    simp only [go_sem, ↓reduceIte, Nat.reduceEqDiff, Nat.reduceAdd, reduceCtorEq, CCT, CCv, CCr, CCk, Nat.reduceBNe, Nat.reduceLeDiff, Nat.reduceLT, beqI, bneI, List.length_map, decide_true, decide_false, Int.reduceEq, Int.reduceLT, Int.reduceLE, Int.reduceGE, Int.reduceGT, not_true_eq_false, not_false_eq_true, Bool.and_true, Bool.true_and, Bool.and_false, Bool.false_and, and_true, true_and, and_self, Bool.not_not, hb, e1]
    have hq : bytesI (numL s.size) ++ bytesI (strI s) = bytesI (textL s) := by simp [bytesI, textL]
    refine gfx (T := T) (t := 43) (ys := bytesI (strI s)) hg (by simp [bytesI, numL_ne]) rfl ?_ ?_ ?_
    · simp only [go_sem, ↓reduceIte, Nat.reduceEqDiff, Nat.reduceAdd, reduceCtorEq, CCT, CCv, CCr, CCk, Nat.reduceBNe, Nat.reduceLeDiff, Nat.reduceLT, beqI, bneI, List.length_map, decide_true, decide_false, Int.reduceEq, Int.reduceLT, Int.reduceLE, Int.reduceGE, Int.reduceGT, not_true_eq_false, not_false_eq_true, Bool.and_true, Bool.true_and, Bool.and_false, Bool.false_and, and_true, true_and, and_self, Bool.not_not, *]
      rw [bytes_strI]
    · refine roomy_of ?_ (by decide)
      have := congrArg List.length hq
      simp only [bytesI, List.length_map, List.length_append] at this ⊢
      omega
    simp only [go_sem, ↓reduceIte, Nat.reduceEqDiff, Nat.reduceAdd, reduceCtorEq, CCT, CCv, CCr, CCk, Nat.reduceBNe, Nat.reduceLeDiff, Nat.reduceLT, beqI, bneI, List.length_map, decide_true, decide_false, Int.reduceEq, Int.reduceLT, Int.reduceLE, Int.reduceGE, Int.reduceGT, not_true_eq_false, not_false_eq_true, Bool.and_true, Bool.true_and, Bool.and_false, Bool.false_and, and_true, true_and, and_self, Bool.not_not, hb, e1, hq]
    have hne : bytesI (textL s) ≠ [] := by rw [← hq]; simp [bytesI, numL_ne]
    rw [← hX]
    simp [growR, hne, valSt, valSt1, Wp]
theorem refInts_c (d : Nat) (b : Bool) (xs : List Int) : evalF Try.prog CC (d + 6) 33 [.list 3 b (intsA xs) none] St.empty = some (.tup [growR 5 (bytesI (intsR xs).1), .int .i64 (intsR xs).2], valSt (growR 5 (bytesI (intsR xs).1))) ∨ xs = [] := by
  by_cases hxs : xs = []
  · exact .inr hxs
  left
  generalize hX : some ((.tup [growR 5 (bytesI (intsR xs).1), .int .i64 (intsR xs).2], valSt (growR 5 (bytesI (intsR xs).1))) : AV × St) = X
  have hil : (intsA xs).length = xs.length := by simp [intsA]
  refine wp_eq ?_
  rw [run_33 _ _ _ (by simp)]; unfold Try.f33; simp only [Option.getD_some]
  simp only [go_sem, ↓reduceIte, Nat.reduceEqDiff, Nat.reduceAdd, reduceCtorEq, CCT, CCv, CCr, CCk, Nat.reduceBNe, Nat.reduceLeDiff, Nat.reduceLT, beqI, bneI, List.length_map, decide_true, decide_false, Int.reduceEq, Int.reduceLT, Int.reduceLE, Int.reduceGE, Int.reduceGT, not_true_eq_false, not_false_eq_true, Bool.and_true, Bool.true_and, Bool.and_false, Bool.false_and, and_true, true_and, and_self, Bool.not_not, hil]
  refine W.br_dec (fun h1000 => ?_) (fun h1000 => ?_)
  · have : intsR xs = ([], 11) := by rw [intsR, if_pos (by omega)]
    rw [this] at hX
    simp only [go_sem, ↓reduceIte, Nat.reduceEqDiff, Nat.reduceAdd, reduceCtorEq, CCT, CCv, CCr, CCk, Nat.reduceBNe, Nat.reduceLeDiff, Nat.reduceLT, beqI, bneI, List.length_map, decide_true, decide_false, Int.reduceEq, Int.reduceLT, Int.reduceLE, Int.reduceGE, Int.reduceGT, not_true_eq_false, not_false_eq_true, Bool.and_true, Bool.true_and, Bool.and_false, Bool.false_and, and_true, true_and, and_self, Bool.not_not, h1000, hil]
    exact hX
  have hw : IntKind.u64.wrap (xs.length : Int) = (xs.length : Nat) := by rw [IntKind.wrap_u64]; omega
  have hlen : (numL xs.length).length ≤ 2 := numL_len 1 _ (by omega)
  simp only [go_sem, ↓reduceIte, Nat.reduceEqDiff, Nat.reduceAdd, reduceCtorEq, CCT, CCv, CCr, CCk, Nat.reduceBNe, Nat.reduceLeDiff, Nat.reduceLT, beqI, bneI, List.length_map, decide_true, decide_false, Int.reduceEq, Int.reduceLT, Int.reduceLE, Int.reduceGE, Int.reduceGT, not_true_eq_false, not_false_eq_true, Bool.and_true, Bool.true_and, Bool.and_false, Bool.false_and, and_true, true_and, and_self, Bool.not_not, h1000, hil, hw]
  refine call31 (by omega) rfl ?_
  intro v σ kk hg hσ
  simp only [go_sem, ↓reduceIte, Nat.reduceEqDiff, Nat.reduceAdd, reduceCtorEq, CCT, CCv, CCr, CCk, Nat.reduceBNe, Nat.reduceLeDiff, Nat.reduceLT, beqI, bneI, List.length_map, decide_true, decide_false, Int.reduceEq, Int.reduceLT, Int.reduceLE, Int.reduceGE, Int.reduceGT, not_true_eq_false, not_false_eq_true, Bool.and_true, Bool.true_and, Bool.and_false, Bool.false_and, and_true, true_and, and_self, Bool.not_not, h1000, hil, hw]
  clear hσ
  refine W.iter_rule (fun i ρ σ => ρ 0 = .list 3 b (intsA xs) none ∧ ρ 5 = .int .i64 i ∧ (∀ x ∈ xs.take i, intOk x = true) ∧ ∃ kk, Gf 5 (bytesI (numL xs.length ++ intsB (xs.take i))) σ (ρ 4) kk ∧ (0 < i → Gw 5 (bytesI (numL xs.length ++ intsB (xs.take i))) σ (ρ 4) kk)) xs.length ?_ ?_ _ 0 _ _ (Nat.zero_le _) ?_ ?_
  · clear hg
    rintro i ρ σ hi ⟨h0, h5, hall, kk, hg, _⟩ K hK hx hr
    have hlt : (i : Int) < (xs.length : Int) := by omega
    have hwrap : IntKind.i64.wrap ((i : Int) + 1) = ((i + 1 : Nat) : Int) := by rw [IntKind.wrap_i64]; omega
    have hidx : idxOk (i : Int) xs.length = true := by simp [idxOk]; omega
    have hget : (intsA xs)[((i : Nat) : Int).toNat]? = some (.int .i64 xs[i]) := by simp [intsA, hi]
    have hsn : xs.take (i + 1) = xs.take i ++ [xs[i]] := List.take_succ_eq_append_getElem hi
    have hmem := List.getElem_mem hi
    have hbl := intsB_len hall
    rw [List.length_take] at hbl
    generalize xs[i] = x at hget hsn hmem
    have hbad : intOk x = false → intsR xs = ([], 1) := by
      intro hb
      have : xs.all intOk = false := by rw [List.all_eq_false]; exact ⟨x, hmem, by simp [hb]⟩
      rw [intsR, if_neg (by omega), this]
      rfl
    by_cases hb0 : x < 0
    · rw [hbad (by simp [intOk]; omega)] at hX
      simp only [go_sem, ↓reduceIte, Nat.reduceEqDiff, Nat.reduceAdd, reduceCtorEq, CCT, CCv, CCr, CCk, Nat.reduceBNe, Nat.reduceLeDiff, Nat.reduceLT, beqI, bneI, List.length_map, decide_true, decide_false, Int.reduceEq, Int.reduceLT, Int.reduceLE, Int.reduceGE, Int.reduceGT, not_true_eq_false, not_false_eq_true, Bool.and_true, Bool.true_and, Bool.and_false, Bool.false_and, and_true, true_and, and_self, Bool.not_not, h0, h5, hlt, hil, hidx, hget, hb0, hr]
      exact hX
    by_cases hb1 : x > 2147483647
    · rw [hbad (by simp [intOk]; omega)] at hX
      simp only [go_sem, ↓reduceIte, Nat.reduceEqDiff, Nat.reduceAdd, reduceCtorEq, CCT, CCv, CCr, CCk, Nat.reduceBNe, Nat.reduceLeDiff, Nat.reduceLT, beqI, bneI, List.length_map, decide_true, decide_false, Int.reduceEq, Int.reduceLT, Int.reduceLE, Int.reduceGE, Int.reduceGT, not_true_eq_false, not_false_eq_true, Bool.and_true, Bool.true_and, Bool.and_false, Bool.false_and, and_true, true_and, and_self, Bool.not_not, h0, h5, hlt, hil, hidx, hget, hb0, hb1, hr]
      exact hX
    have e1 : IntKind.u64.wrap x = (x.toNat : Nat) := by rw [IntKind.wrap_u64]; omega
    have hl5 := numL_len 4 x.toNat (by omega)
    simp only [go_sem, ↓reduceIte, Nat.reduceEqDiff, Nat.reduceAdd, reduceCtorEq, CCT, CCv, CCr, CCk, Nat.reduceBNe, Nat.reduceLeDiff, Nat.reduceLT, beqI, bneI, List.length_map, decide_true, decide_false, Int.reduceEq, Int.reduceLT, Int.reduceLE, Int.reduceGE, Int.reduceGT, not_true_eq_false, not_false_eq_true, Bool.and_true, Bool.true_and, Bool.and_false, Bool.false_and, and_true, true_and, and_self, Bool.not_not, h0, h5, hlt, hil, hidx, hget, hb0, hb1, e1]
    refine call31 (by omega) rfl ?_
    intro v' σ' kk' hg' hσ'
    have hg2 := hg.call hσ'
    obtain ⟨tt, rfl⟩ := hg'.list (by simp [bytesI, numL_ne])
    simp only [go_sem, ↓reduceIte, Nat.reduceEqDiff, Nat.reduceAdd, reduceCtorEq, CCT, CCv, CCr, CCk, Nat.reduceBNe, Nat.reduceLeDiff, Nat.reduceLT, beqI, bneI, List.length_map, decide_true, decide_false, Int.reduceEq, Int.reduceLT, Int.reduceLE, Int.reduceGE, Int.reduceGT, not_true_eq_false, not_false_eq_true, Bool.and_true, Bool.true_and, Bool.and_false, Bool.false_and, and_true, true_and, and_self, Bool.not_not, h0, h5, hlt, hil, hidx, hget, hb0, hb1, e1]
    refine gfx (T := T) (t := 43) (ys := bytesI (numL x.toNat)) hg2 (by simp [bytesI, numL_ne]) rfl ?_ ?_ ?_
    · rfl
    · refine roomy_of ?_ (by decide)
      simp only [bytesI, List.length_map, List.length_append]
      omega
    simp only [go_sem, ↓reduceIte, Nat.reduceEqDiff, Nat.reduceAdd, reduceCtorEq, CCT, CCv, CCr, CCk, Nat.reduceBNe, Nat.reduceLeDiff, Nat.reduceLT, beqI, bneI, List.length_map, decide_true, decide_false, Int.reduceEq, Int.reduceLT, Int.reduceLE, Int.reduceGE, Int.reduceGT, not_true_eq_false, not_false_eq_true, Bool.and_true, Bool.true_and, Bool.and_false, Bool.false_and, and_true, true_and, and_self, Bool.not_not, h0, h5, hlt, hil, hidx, hget, hb0, hb1, e1, hwrap]
    refine hK _ _ ?_
    have hq : bytesI (numL xs.length ++ intsB (xs.take (i + 1))) = bytesI (numL xs.length ++ intsB (xs.take i)) ++ bytesI (numL x.toNat) := by
      rw [hsn, intsB_snoc]; simp [bytesI]
    have hnew : Gw 5 (bytesI (numL xs.length ++ intsB (xs.take (i + 1)))) (σ'.tokNew kk) (.list 5 false (bytesI (numL xs.length ++ intsB (xs.take i)) ++ bytesI (numL x.toNat)) (some (σ'.ntok + 1))) (some σ'.ntok) := by
      rw [hq]
      exact .new (by simp [bytesI, numL_ne])
    refine ⟨by (try simp only [go_sem, ↓reduceIte, Nat.reduceEqDiff, Nat.reduceAdd, reduceCtorEq, CCT, CCv, CCr, CCk, Nat.reduceBNe, Nat.reduceLeDiff, Nat.reduceLT, beqI, bneI, List.length_map, decide_true, decide_false, Int.reduceEq, Int.reduceLT, Int.reduceLE, Int.reduceGE, Int.reduceGT, not_true_eq_false, not_false_eq_true, Bool.and_true, Bool.true_and, Bool.and_false, Bool.false_and, and_true, true_and, and_self, Bool.not_not, Int.toNat_natCast, List.length_take, *]) <;> (first | done | rfl | omega | (simp; done) | (simp; omega)), by (try simp only [go_sem, ↓reduceIte, Nat.reduceEqDiff, Nat.reduceAdd, reduceCtorEq, CCT, CCv, CCr, CCk, Nat.reduceBNe, Nat.reduceLeDiff, Nat.reduceLT, beqI, bneI, List.length_map, decide_true, decide_false, Int.reduceEq, Int.reduceLT, Int.reduceLE, Int.reduceGE, Int.reduceGT, not_true_eq_false, not_false_eq_true, Bool.and_true, Bool.true_and, Bool.and_false, Bool.false_and, and_true, true_and, and_self, Bool.not_not, Int.toNat_natCast, List.length_take, *]) <;> (first | done | rfl | omega | (simp; done) | (simp; omega)), ?_, some σ'.ntok, ?_, fun _ => ?_⟩
    · intro y hy
      rw [hsn, List.mem_append, List.mem_singleton] at hy
      rcases hy with hy | rfl
      · exact hall y hy
      · simp [intOk]; omega
    · simp only [go_sem, ↓reduceIte, Nat.reduceEqDiff, Nat.reduceAdd, reduceCtorEq, CCT, CCv, CCr, CCk, Nat.reduceBNe, Nat.reduceLeDiff, Nat.reduceLT, beqI, bneI, List.length_map, decide_true, decide_false, Int.reduceEq, Int.reduceLT, Int.reduceLE, Int.reduceGE, Int.reduceGT, not_true_eq_false, not_false_eq_true, Bool.and_true, Bool.true_and, Bool.and_false, Bool.false_and, and_true, true_and, and_self, Bool.not_not, h0]
      exact .inl hnew
    · simp only [go_sem, ↓reduceIte, Nat.reduceEqDiff, Nat.reduceAdd, reduceCtorEq, CCT, CCv, CCr, CCk, Nat.reduceBNe, Nat.reduceLeDiff, Nat.reduceLT, beqI, bneI, List.length_map, decide_true, decide_false, Int.reduceEq, Int.reduceLT, Int.reduceLE, Int.reduceGE, Int.reduceGT, not_true_eq_false, not_false_eq_true, Bool.and_true, Bool.true_and, Bool.and_false, Bool.false_and, and_true, true_and, and_self, Bool.not_not, h0]
      exact hnew
  · rintro ρ σ ⟨h0, h5, hall, kk, _, hg⟩ K hx hr
    have hg := hg (List.length_pos_iff.2 hxs)
    rw [List.take_length] at hall hg
    have hlt : ¬ (xs.length : Int) < (xs.length : Int) := by omega
    have : intsR xs = (numL xs.length ++ intsB xs, 0) := by
      rw [intsR, if_neg (by omega), if_pos (List.all_eq_true.2 hall)]
    rw [this] at hX
    simp only [go_sem, ↓reduceIte, Nat.reduceEqDiff, Nat.reduceAdd, reduceCtorEq, CCT, CCv, CCr, CCk, Nat.reduceBNe, Nat.reduceLeDiff, Nat.reduceLT, beqI, bneI, List.length_map, decide_true, decide_false, Int.reduceEq, Int.reduceLT, Int.reduceLE, Int.reduceGE, Int.reduceGT, not_true_eq_false, not_false_eq_true, Bool.and_true, Bool.true_and, Bool.and_false, Bool.false_and, and_true, true_and, and_self, Bool.not_not, hx, h0, h5, hlt, hil, gw_comp hg]
    refine W.gw_ret_tup (vs := [.int .i64 0]) (us := [.int .i64 0]) hg rfl ?_
    rw [valSt_grow]
    exact hX
  · show xs.length < 0 + 9223372036854775900
    omega
  · refine ⟨by (try simp only [go_sem, ↓reduceIte, Nat.reduceEqDiff, Nat.reduceAdd, reduceCtorEq, CCT, CCv, CCr, CCk, Nat.reduceBNe, Nat.reduceLeDiff, Nat.reduceLT, beqI, bneI, List.length_map, decide_true, decide_false, Int.reduceEq, Int.reduceLT, Int.reduceLE, Int.reduceGE, Int.reduceGT, not_true_eq_false, not_false_eq_true, Bool.and_true, Bool.true_and, Bool.and_false, Bool.false_and, and_true, true_and, and_self, Bool.not_not, Int.toNat_natCast, List.length_take, *]) <;> (first | done | rfl | omega | (simp; done) | (simp; omega)), by (try simp only [go_sem, ↓reduceIte, Nat.reduceEqDiff, Nat.reduceAdd, reduceCtorEq, CCT, CCv, CCr, CCk, Nat.reduceBNe, Nat.reduceLeDiff, Nat.reduceLT, beqI, bneI, List.length_map, decide_true, decide_false, Int.reduceEq, Int.reduceLT, Int.reduceLE, Int.reduceGE, Int.reduceGT, not_true_eq_false, not_false_eq_true, Bool.and_true, Bool.true_and, Bool.and_false, Bool.false_and, and_true, true_and, and_self, Bool.not_not, Int.toNat_natCast, List.length_take, *]) <;> (first | done | rfl | omega | (simp; done) | (simp; omega)), by simp, kk, ?_, fun h => absurd h (Nat.lt_irrefl _)⟩
    simp only [go_sem, ↓reduceIte, Nat.reduceEqDiff, Nat.reduceAdd, reduceCtorEq, CCT, CCv, CCr, CCk, Nat.reduceBNe, Nat.reduceLeDiff, Nat.reduceLT, beqI, bneI, List.length_map, decide_true, decide_false, Int.reduceEq, Int.reduceLT, Int.reduceLE, Int.reduceGE, Int.reduceGT, not_true_eq_false, not_false_eq_true, Bool.and_true, Bool.true_and, Bool.and_false, Bool.false_and, and_true, true_and, and_self, Bool.not_not, hil]
    simpa [intsB] using hg
end Go.Proofs.Ytjembadjfiohpaa.Va
