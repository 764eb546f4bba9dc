/- chapter 5: the document's: which types are reached -/
import Derived.Test.YtjembadjfiohpaaFivT
import Derived.Test.YtjembadjfiohpaaFivB
import Derived.Test.YtjembadjfiohpaaVaN

namespace Go.Proofs.Ytjembadjfiohpaa.Va
open Go
set_option linter.unusedVariables false
set_option linter.unusedSimpArgs false
set_option maxRecDepth 100000
def addF (out : List Int) (f : Fld) : List Int := if f.kind = 2 ∧ f.type ∉ out then out ++ [f.type] else out
def reachedS (l : List Typ) (s : List Int) : List Int := s.foldl (fun out a => (at0 l a).fields.foldl addF out) s
theorem addF_ne {out : List Int} (h : out ≠ []) (f : Fld) : addF out f ≠ [] := by
  unfold addF; split
  · simp
  · exact h
theorem addFs_ne : ∀ (fs : List Fld) {out : List Int}, out ≠ [] → fs.foldl addF out ≠ []
  | [], out, h => h
  | f :: fs, out, h => addFs_ne fs (addF_ne h f)
theorem reached_ne (l : List Typ) : ∀ (s : List Int) {out : List Int}, out ≠ [] → s.foldl (fun out a => (at0 l a).fields.foldl addF out) out ≠ []
  | [], out, h => h
  | a :: s, out, h => reached_ne l s (addFs_ne _ h)
theorem reachedS_ne (l : List Typ) {s : List Int} (h : s ≠ []) : reachedS l s ≠ [] := reached_ne l s h
/-- few, and then none twice -/
def Few (N : Nat) (s : List Int) : Prop := ∃ a b, s = a ++ b ∧ a.length ≤ 12 ∧ b.Nodup ∧ (∀ x ∈ b, 0 ≤ x ∧ x < (N : Int)) ∧ ∀ x ∈ a, 0 ≤ x ∧ x < (N : Int)
theorem Few.len {N : Nat} {s : List Int} (h : Few N s) : s.length ≤ 12 + N := by
  obtain ⟨a, b, rfl, h1, h2, h3, h4⟩ := h
  have := nodup_len N b h2 h3
  rw [List.length_append]; omega
theorem Few.rng {N : Nat} {s : List Int} (h : Few N s) : ∀ x ∈ s, 0 ≤ x ∧ x < (N : Int) := by
  obtain ⟨a, b, rfl, h1, h2, h3, h4⟩ := h
  intro x hx
  rcases List.mem_append.1 hx with hx | hx
  · exact h4 x hx
  · exact h3 x hx
theorem Few.add {N : Nat} {s : List Int} (h : Few N s) {f : Fld} (hf : f.kind = 2 → 0 ≤ f.type ∧ f.type < (N : Int)) : Few N (addF s f) := by
  unfold addF
  split
  · rename_i hc
    obtain ⟨a, b, rfl, h1, h2, h3, h4⟩ := h
    refine ⟨a, b ++ [f.type], by rw [List.append_assoc], h1, ?_, ?_, h4⟩
    · rw [List.nodup_append]
      refine ⟨h2, by simp, fun x hx y hy => ?_⟩
      simp only [List.mem_singleton] at hy
      subst hy
      rintro rfl
      exact hc.2 (List.mem_append_right _ hx)
    · intro x hx
      rcases List.mem_append.1 hx with hx | hx
      · exact h3 x hx
      · simp only [List.mem_singleton] at hx; subst hx; exact hf hc.1
  · exact h
theorem Few.adds {N : Nat} : ∀ {fs : List Fld} {s : List Int}, Few N s → (∀ f ∈ fs, f.kind = 2 → 0 ≤ f.type ∧ f.type < (N : Int)) → Few N (fs.foldl addF s)
  | [], s, h, _ => h
  | f :: fs, s, h, hf => Few.adds (fs := fs) (h.add (hf f (by simp))) (fun g hg => hf g (by simp [hg]))
theorem Reached_c (d : Nat) (bl : Bool) (l : List Typ) (hl : l.length ≤ 1000) (hfl : ∀ t ∈ l, t.fields.length ≤ 12) (hok : ∀ t ∈ l, ∀ f ∈ t.fields, f.kind = 2 → 0 ≤ f.type ∧ f.type < (l.length : Int)) (s : List Int) (hs : Few l.length s) (hne : s ≠ []) (b : Bool) (k : Option Nat) :
    evalF Try.prog CC (d + 3) 42 [encTs bl l, .list 3 b (intsA s) k] St.empty = some (.list 3 false (intsA (reachedS l s)) (some 1), valSt1 (.list 3 false (intsA (reachedS l s)) (some 1))) := by
  generalize hX : some (AV.list 3 false (intsA (reachedS l s)) (some 1), valSt1 (.list 3 false (intsA (reachedS l s)) (some 1))) = X
  have hsl := hs.len
  have hil : (intsA s).length = s.length := by simp [intsA]
  have hrm : roomy T 3 (0 + s.length) = true := roomy_of (by omega) (by decide)
  refine wp_eq ?_
  rw [run_42 _ _ _ (by simp)]; unfold Try.f42; simp only [Option.getD_some]
  simp only [encTs]
  simp only [go_sem, ↓reduceIte, Nat.reduceEqDiff, Nat.reduceAdd, reduceCtorEq, CCT, CCv, CCr, CCk, Nat.reduceBNe, Nat.reduceLeDiff, Nat.reduceLT, beqI, bneI, List.length_map, decide_true, decide_false, Int.reduceEq, Int.reduceLT, Int.reduceLE, Int.reduceGE, Int.reduceGT, not_true_eq_false, not_false_eq_true, Bool.and_true, Bool.true_and, Bool.and_false, Bool.false_and, and_true, true_and, and_self, Bool.not_not, *]
  refine W.iter_rule (fun i ρ σ => ρ 0 = .list 32 bl (l.map encTy) none ∧ ρ 1 = .list 3 b (intsA s) k ∧ ρ 6 = .int .i64 i ∧ ∃ (out : List Int) (kk : Option Nat), Gw 3 (intsA out) σ (ρ 5) kk ∧ Few l.length out ∧
    (s.drop i).foldl (fun out a => (at0 l a).fields.foldl addF out) out = reachedS l s) s.length ?_ ?_ _ 0 _ _ (Nat.zero_le _) ?_ ?_
  · rintro i ρ σ hi ⟨h0, h1, h6, out, kk, hg, hfew, hfold⟩ K hK hx hr
    have hlt : (i : Int) < (s.length : Int) := by omega
    have hwrap : IntKind.i64.wrap ((i : Int) + 1) = ((i + 1 : Nat) : Int) := by rw [IntKind.wrap_i64]; omega
    obtain ⟨r0, r1⟩ := hs.rng s[i] (List.getElem_mem hi)
    rw [List.drop_eq_getElem_cons hi, List.foldl_cons] at hfold
    have hidx : idxOk (i : Int) s.length = true := by simp [idxOk]; omega
    have hget : (intsA s)[(i : Int).toNat]? = some (.int .i64 s[i]) := by simp [intsA, hi]
    simp only [go_sem, ↓reduceIte, Nat.reduceEqDiff, Nat.reduceAdd, reduceCtorEq, CCT, CCv, CCr, CCk, Nat.reduceBNe, Nat.reduceLeDiff, Nat.reduceLT, beqI, bneI, List.length_map, decide_true, decide_false, Int.reduceEq, Int.reduceLT, Int.reduceLE, Int.reduceGE, Int.reduceGT, not_true_eq_false, not_false_eq_true, Bool.and_true, Bool.true_and, Bool.and_false, Bool.false_and, and_true, true_and, and_self, Bool.not_not, h0, h1, h6, hil, hlt, hidx, hget]
    refine W.idx_at (by omega) (by omega) ?_
    have hmem := at0_mem r0 r1
    have hfl' := hfl _ hmem
    have hok' := hok _ hmem
    generalize ht : at0 l s[i] = t at hfl' hok' hfold ⊢
    obtain ⟨name, tv, tr, tb, fs⟩ := t
    simp only at hfl' hok' hfold
    simp only [go_sem, ↓reduceIte, Nat.reduceEqDiff, Nat.reduceAdd, reduceCtorEq, CCT, CCv, CCr, CCk, Nat.reduceBNe, Nat.reduceLeDiff, Nat.reduceLT, beqI, bneI, List.length_map, decide_true, decide_false, Int.reduceEq, Int.reduceLT, Int.reduceLE, Int.reduceGE, Int.reduceGT, not_true_eq_false, not_false_eq_true, Bool.and_true, Bool.true_and, Bool.and_false, Bool.false_and, and_true, true_and, and_self, Bool.not_not, encTy, h0, h1, h6]
    refine W.iter_rule (fun m ρ σ => ρ 0 = .list 32 bl (l.map encTy) none ∧ ρ 1 = .list 3 b (intsA s) k ∧ ρ 6 = .int .i64 i ∧ ρ 7 = .list 41 tb (fs.map encF) none ∧ ρ 8 = .int .i64 m ∧ ∃ (o2 : List Int) (kk : Option Nat), Gw 3 (intsA o2) σ (ρ 5) kk ∧ Few l.length o2 ∧
      (fs.drop m).foldl addF o2 = fs.foldl addF out) fs.length ?_ ?_ _ 0 _ _ (Nat.zero_le _) ?_ ?_
    · clear hr hx
      rintro m ρ σ hm ⟨h0, h1, h6, h7, h8, o2, kk, hg, hfew, hf2⟩ K2 hK2 hx hr
      have hlt : (m : Int) < (fs.length : Int) := by omega
      have hwrap2 : IntKind.i64.wrap ((m : Int) + 1) = ((m + 1 : Nat) : Int) := by rw [IntKind.wrap_i64]; omega
      rw [List.drop_eq_getElem_cons hm, List.foldl_cons] at hf2
      have hfm : fs[m] ∈ fs := List.getElem_mem hm
      have hat : at0 fs (m : Int) = fs[m] := at0_nat hm
      have hadd := hfew.add (hok' _ hfm)
      generalize fs[m] = f at hf2 hfm hat hadd
      obtain ⟨fk, fn, ft, fli, fke⟩ := f
      have ho2 := hfew.len
      simp only [go_sem, ↓reduceIte, Nat.reduceEqDiff, Nat.reduceAdd, reduceCtorEq, CCT, CCv, CCr, CCk, Nat.reduceBNe, Nat.reduceLeDiff, Nat.reduceLT, beqI, bneI, List.length_map, decide_true, decide_false, Int.reduceEq, Int.reduceLT, Int.reduceLE, Int.reduceGE, Int.reduceGT, not_true_eq_false, not_false_eq_true, Bool.and_true, Bool.true_and, Bool.and_false, Bool.false_and, and_true, true_and, and_self, Bool.not_not, h0, h1, h6, h7, h8, hlt]
      refine W.idx_at (by omega) (by omega) ?_
      rw [hat]
      simp only [go_sem, ↓reduceIte, Nat.reduceEqDiff, Nat.reduceAdd, reduceCtorEq, CCT, CCv, CCr, CCk, Nat.reduceBNe, Nat.reduceLeDiff, Nat.reduceLT, beqI, bneI, List.length_map, decide_true, decide_false, Int.reduceEq, Int.reduceLT, Int.reduceLE, Int.reduceGE, Int.reduceGT, not_true_eq_false, not_false_eq_true, Bool.and_true, Bool.true_and, Bool.and_false, Bool.false_and, and_true, true_and, and_self, Bool.not_not, encF, h0, h1, h6, h7, h8, hlt]
      have e0 : (!decide (fk = 2)) = decide (¬ fk = 2 ∨ ft ∈ o2.take 0) := by by_cases h : fk = 2 <;> simp [h]
      refine W.iter_rule (fun q ρ σ => ρ 0 = .list 32 bl (l.map encTy) none ∧ ρ 1 = .list 3 b (intsA s) k ∧ ρ 6 = .int .i64 i ∧ ρ 7 = .list 41 tb (fs.map encF) none ∧ ρ 8 = .int .i64 m ∧ ρ 9 = .bool (decide (¬ fk = 2 ∨ ft ∈ o2.take q)) ∧ ρ 10 = .int .i64 q ∧ Gw 3 (intsA o2) σ (ρ 5) kk) o2.length ?_ ?_ _ 0 _ _ (Nat.zero_le _) ?_ ?_
      · clear hr hx
        rintro q ρ σ hq ⟨h0, h1, h6, h7, h8, h9, h10, hg⟩ K3 hK3 hx hr
        have hltq : (q : Int) < (o2.length : Int) := by omega
        have hwrap3 : IntKind.i64.wrap ((q : Int) + 1) = ((q + 1 : Nat) : Int) := by rw [IntKind.wrap_i64]; omega
        have hio : (intsA o2).length = o2.length := by simp [intsA]
        refine W.gw_len hg ty_33 ?_
        simp only [go_sem, ↓reduceIte, Nat.reduceEqDiff, Nat.reduceAdd, reduceCtorEq, CCT, CCv, CCr, CCk, Nat.reduceBNe, Nat.reduceLeDiff, Nat.reduceLT, beqI, bneI, List.length_map, decide_true, decide_false, Int.reduceEq, Int.reduceLT, Int.reduceLE, Int.reduceGE, Int.reduceGT, not_true_eq_false, not_false_eq_true, Bool.and_true, Bool.true_and, Bool.and_false, Bool.false_and, and_true, true_and, and_self, Bool.not_not, h0, h1, h6, h7, h8, h9, h10, hio, hltq]
        refine W.br_ok (by kernel_rfl) ?_
        simp only [go_sem, ↓reduceIte, Nat.reduceEqDiff, Nat.reduceAdd, reduceCtorEq, CCT, CCv, CCr, CCk, Nat.reduceBNe, Nat.reduceLeDiff, Nat.reduceLT, beqI, bneI, List.length_map, decide_true, decide_false, Int.reduceEq, Int.reduceLT, Int.reduceLE, Int.reduceGE, Int.reduceGT, not_true_eq_false, not_false_eq_true, Bool.and_true, Bool.true_and, Bool.and_false, Bool.false_and, and_true, true_and, and_self, Bool.not_not, h0, h1, h6, h7, h8, h9, h10, hio, hltq]
        have hstep : (¬ fk = 2 ∨ ft ∈ o2.take (q + 1)) ↔ ((¬ fk = 2 ∨ ft ∈ o2.take q) ∨ o2[q] = ft) := by
          rw [List.take_succ_eq_append_getElem hq, List.mem_append, List.mem_singleton, or_assoc]
          exact ⟨fun h => h.imp id fun h => h.imp id Eq.symm, fun h => h.imp id fun h => h.imp id Eq.symm⟩
        have hgo : (intsA o2)[((q : Nat) : Int).toNat]? = some (.int .i64 o2[q]) := by simp [intsA, hq]
        refine W.want_decf (fun hc => ?_) (fun hc => ?_)
        · simp only [go_sem, ↓reduceIte, Nat.reduceEqDiff, Nat.reduceAdd, reduceCtorEq, CCT, CCv, CCr, CCk, Nat.reduceBNe, Nat.reduceLeDiff, Nat.reduceLT, beqI, bneI, List.length_map, decide_true, decide_false, Int.reduceEq, Int.reduceLT, Int.reduceLE, Int.reduceGE, Int.reduceGT, not_true_eq_false, not_false_eq_true, Bool.and_true, Bool.true_and, Bool.and_false, Bool.false_and, and_true, true_and, and_self, Bool.not_not, hc, h0, h1, h6, h7, h8, h9, h10, hwrap3]
          refine hK3 _ _ ?_
          refine ⟨by (try simp only [go_sem, ↓reduceIte, Nat.reduceEqDiff, Nat.reduceAdd, reduceCtorEq, CCT, CCv, CCr, CCk, Nat.reduceBNe, Nat.reduceLeDiff, Nat.reduceLT, beqI, bneI, List.length_map, decide_true, decide_false, Int.reduceEq, Int.reduceLT, Int.reduceLE, Int.reduceGE, Int.reduceGT, not_true_eq_false, not_false_eq_true, Bool.and_true, Bool.true_and, Bool.and_false, Bool.false_and, and_true, true_and, and_self, Bool.not_not, Int.toNat_natCast, List.length_take, *]) <;> (first | done | rfl | omega | (simp; done) | (simp; omega)), by (try simp only [go_sem, ↓reduceIte, Nat.reduceEqDiff, Nat.reduceAdd, reduceCtorEq, CCT, CCv, CCr, CCk, Nat.reduceBNe, Nat.reduceLeDiff, Nat.reduceLT, beqI, bneI, List.length_map, decide_true, decide_false, Int.reduceEq, Int.reduceLT, Int.reduceLE, Int.reduceGE, Int.reduceGT, not_true_eq_false, not_false_eq_true, Bool.and_true, Bool.true_and, Bool.and_false, Bool.false_and, and_true, true_and, and_self, Bool.not_not, Int.toNat_natCast, List.length_take, *]) <;> (first | done | rfl | omega | (simp; done) | (simp; omega)), by (try simp only [go_sem, ↓reduceIte, Nat.reduceEqDiff, Nat.reduceAdd, reduceCtorEq, CCT, CCv, CCr, CCk, Nat.reduceBNe, Nat.reduceLeDiff, Nat.reduceLT, beqI, bneI, List.length_map, decide_true, decide_false, Int.reduceEq, Int.reduceLT, Int.reduceLE, Int.reduceGE, Int.reduceGT, not_true_eq_false, not_false_eq_true, Bool.and_true, Bool.true_and, Bool.and_false, Bool.false_and, and_true, true_and, and_self, Bool.not_not, Int.toNat_natCast, List.length_take, *]) <;> (first | done | rfl | omega | (simp; done) | (simp; omega)), by (try simp only [go_sem, ↓reduceIte, Nat.reduceEqDiff, Nat.reduceAdd, reduceCtorEq, CCT, CCv, CCr, CCk, Nat.reduceBNe, Nat.reduceLeDiff, Nat.reduceLT, beqI, bneI, List.length_map, decide_true, decide_false, Int.reduceEq, Int.reduceLT, Int.reduceLE, Int.reduceGE, Int.reduceGT, not_true_eq_false, not_false_eq_true, Bool.and_true, Bool.true_and, Bool.and_false, Bool.false_and, and_true, true_and, and_self, Bool.not_not, Int.toNat_natCast, List.length_take, *]) <;> (first | done | rfl | omega | (simp; done) | (simp; omega)), by (try simp only [go_sem, ↓reduceIte, Nat.reduceEqDiff, Nat.reduceAdd, reduceCtorEq, CCT, CCv, CCr, CCk, Nat.reduceBNe, Nat.reduceLeDiff, Nat.reduceLT, beqI, bneI, List.length_map, decide_true, decide_false, Int.reduceEq, Int.reduceLT, Int.reduceLE, Int.reduceGE, Int.reduceGT, not_true_eq_false, not_false_eq_true, Bool.and_true, Bool.true_and, Bool.and_false, Bool.false_and, and_true, true_and, and_self, Bool.not_not, Int.toNat_natCast, List.length_take, *]) <;> (first | done | rfl | omega | (simp; done) | (simp; omega)), ?_, by (try simp only [go_sem, ↓reduceIte, Nat.reduceEqDiff, Nat.reduceAdd, reduceCtorEq, CCT, CCv, CCr, CCk, Nat.reduceBNe, Nat.reduceLeDiff, Nat.reduceLT, beqI, bneI, List.length_map, decide_true, decide_false, Int.reduceEq, Int.reduceLT, Int.reduceLE, Int.reduceGE, Int.reduceGT, not_true_eq_false, not_false_eq_true, Bool.and_true, Bool.true_and, Bool.and_false, Bool.false_and, and_true, true_and, and_self, Bool.not_not, Int.toNat_natCast, List.length_take, *]) <;> (first | done | rfl | omega | (simp; done) | (simp; omega)), by simp only [go_sem, ↓reduceIte, Nat.reduceEqDiff, Nat.reduceAdd, reduceCtorEq, CCT, CCv, CCr, CCk, Nat.reduceBNe, Nat.reduceLeDiff, Nat.reduceLT, beqI, bneI, List.length_map, decide_true, decide_false, Int.reduceEq, Int.reduceLT, Int.reduceLE, Int.reduceGE, Int.reduceGT, not_true_eq_false, not_false_eq_true, Bool.and_true, Bool.true_and, Bool.and_false, Bool.false_and, and_true, true_and, and_self, Bool.not_not, h0]; exact hg⟩
          simp only [go_sem, ↓reduceIte, Nat.reduceEqDiff, Nat.reduceAdd, reduceCtorEq, CCT, CCv, CCr, CCk, Nat.reduceBNe, Nat.reduceLeDiff, Nat.reduceLT, beqI, bneI, List.length_map, decide_true, decide_false, Int.reduceEq, Int.reduceLT, Int.reduceLE, Int.reduceGE, Int.reduceGT, not_true_eq_false, not_false_eq_true, Bool.and_true, Bool.true_and, Bool.and_false, Bool.false_and, and_true, true_and, and_self, Bool.not_not, h0]
          rw [show decide (¬ fk = 2 ∨ ft ∈ o2.take (q + 1)) = true by rw [decide_eq_true_eq, hstep]; exact .inl hc]
        · simp only [go_sem, ↓reduceIte, Nat.reduceEqDiff, Nat.reduceAdd, reduceCtorEq, CCT, CCv, CCr, CCk, Nat.reduceBNe, Nat.reduceLeDiff, Nat.reduceLT, beqI, bneI, List.length_map, decide_true, decide_false, Int.reduceEq, Int.reduceLT, Int.reduceLE, Int.reduceGE, Int.reduceGT, not_true_eq_false, not_false_eq_true, Bool.and_true, Bool.true_and, Bool.and_false, Bool.false_and, and_true, true_and, and_self, Bool.not_not, hc, h0, h1, h6, h7, h8, h9, h10, hwrap3]
          refine W.gw_idx hg ty_33 (by omega) hgo ?_
          simp only [go_sem, ↓reduceIte, Nat.reduceEqDiff, Nat.reduceAdd, reduceCtorEq, CCT, CCv, CCr, CCk, Nat.reduceBNe, Nat.reduceLeDiff, Nat.reduceLT, beqI, bneI, List.length_map, decide_true, decide_false, Int.reduceEq, Int.reduceLT, Int.reduceLE, Int.reduceGE, Int.reduceGT, not_true_eq_false, not_false_eq_true, Bool.and_true, Bool.true_and, Bool.and_false, Bool.false_and, and_true, true_and, and_self, Bool.not_not, hc, h0, h1, h6, h7, h8, h9, h10, hwrap3]
          refine W.idx_at (by omega) (by omega) ?_
          rw [hat]
          simp only [go_sem, ↓reduceIte, Nat.reduceEqDiff, Nat.reduceAdd, reduceCtorEq, CCT, CCv, CCr, CCk, Nat.reduceBNe, Nat.reduceLeDiff, Nat.reduceLT, beqI, bneI, List.length_map, decide_true, decide_false, Int.reduceEq, Int.reduceLT, Int.reduceLE, Int.reduceGE, Int.reduceGT, not_true_eq_false, not_false_eq_true, Bool.and_true, Bool.true_and, Bool.and_false, Bool.false_and, and_true, true_and, and_self, Bool.not_not, encF, hc, h0, h1, h6, h7, h8, h9, h10, hwrap3]
          refine hK3 _ _ ?_
          refine ⟨by (try simp only [go_sem, ↓reduceIte, Nat.reduceEqDiff, Nat.reduceAdd, reduceCtorEq, CCT, CCv, CCr, CCk, Nat.reduceBNe, Nat.reduceLeDiff, Nat.reduceLT, beqI, bneI, List.length_map, decide_true, decide_false, Int.reduceEq, Int.reduceLT, Int.reduceLE, Int.reduceGE, Int.reduceGT, not_true_eq_false, not_false_eq_true, Bool.and_true, Bool.true_and, Bool.and_false, Bool.false_and, and_true, true_and, and_self, Bool.not_not, Int.toNat_natCast, List.length_take, *]) <;> (first | done | rfl | omega | (simp; done) | (simp; omega)), by (try simp only [go_sem, ↓reduceIte, Nat.reduceEqDiff, Nat.reduceAdd, reduceCtorEq, CCT, CCv, CCr, CCk, Nat.reduceBNe, Nat.reduceLeDiff, Nat.reduceLT, beqI, bneI, List.length_map, decide_true, decide_false, Int.reduceEq, Int.reduceLT, Int.reduceLE, Int.reduceGE, Int.reduceGT, not_true_eq_false, not_false_eq_true, Bool.and_true, Bool.true_and, Bool.and_false, Bool.false_and, and_true, true_and, and_self, Bool.not_not, Int.toNat_natCast, List.length_take, *]) <;> (first | done | rfl | omega | (simp; done) | (simp; omega)), by (try simp only [go_sem, ↓reduceIte, Nat.reduceEqDiff, Nat.reduceAdd, reduceCtorEq, CCT, CCv, CCr, CCk, Nat.reduceBNe, Nat.reduceLeDiff, Nat.reduceLT, beqI, bneI, List.length_map, decide_true, decide_false, Int.reduceEq, Int.reduceLT, Int.reduceLE, Int.reduceGE, Int.reduceGT, not_true_eq_false, not_false_eq_true, Bool.and_true, Bool.true_and, Bool.and_false, Bool.false_and, and_true, true_and, and_self, Bool.not_not, Int.toNat_natCast, List.length_take, *]) <;> (first | done | rfl | omega | (simp; done) | (simp; omega)), by (try simp only [go_sem, ↓reduceIte, Nat.reduceEqDiff, Nat.reduceAdd, reduceCtorEq, CCT, CCv, CCr, CCk, Nat.reduceBNe, Nat.reduceLeDiff, Nat.reduceLT, beqI, bneI, List.length_map, decide_true, decide_false, Int.reduceEq, Int.reduceLT, Int.reduceLE, Int.reduceGE, Int.reduceGT, not_true_eq_false, not_false_eq_true, Bool.and_true, Bool.true_and, Bool.and_false, Bool.false_and, and_true, true_and, and_self, Bool.not_not, Int.toNat_natCast, List.length_take, *]) <;> (first | done | rfl | omega | (simp; done) | (simp; omega)), by (try simp only [go_sem, ↓reduceIte, Nat.reduceEqDiff, Nat.reduceAdd, reduceCtorEq, CCT, CCv, CCr, CCk, Nat.reduceBNe, Nat.reduceLeDiff, Nat.reduceLT, beqI, bneI, List.length_map, decide_true, decide_false, Int.reduceEq, Int.reduceLT, Int.reduceLE, Int.reduceGE, Int.reduceGT, not_true_eq_false, not_false_eq_true, Bool.and_true, Bool.true_and, Bool.and_false, Bool.false_and, and_true, true_and, and_self, Bool.not_not, Int.toNat_natCast, List.length_take, *]) <;> (first | done | rfl | omega | (simp; done) | (simp; omega)), ?_, by (try simp only [go_sem, ↓reduceIte, Nat.reduceEqDiff, Nat.reduceAdd, reduceCtorEq, CCT, CCv, CCr, CCk, Nat.reduceBNe, Nat.reduceLeDiff, Nat.reduceLT, beqI, bneI, List.length_map, decide_true, decide_false, Int.reduceEq, Int.reduceLT, Int.reduceLE, Int.reduceGE, Int.reduceGT, not_true_eq_false, not_false_eq_true, Bool.and_true, Bool.true_and, Bool.and_false, Bool.false_and, and_true, true_and, and_self, Bool.not_not, Int.toNat_natCast, List.length_take, *]) <;> (first | done | rfl | omega | (simp; done) | (simp; omega)), by simp only [go_sem, ↓reduceIte, Nat.reduceEqDiff, Nat.reduceAdd, reduceCtorEq, CCT, CCv, CCr, CCk, Nat.reduceBNe, Nat.reduceLeDiff, Nat.reduceLT, beqI, bneI, List.length_map, decide_true, decide_false, Int.reduceEq, Int.reduceLT, Int.reduceLE, Int.reduceGE, Int.reduceGT, not_true_eq_false, not_false_eq_true, Bool.and_true, Bool.true_and, Bool.and_false, Bool.false_and, and_true, true_and, and_self, Bool.not_not, h0]; exact hg⟩
          simp only [go_sem, ↓reduceIte, Nat.reduceEqDiff, Nat.reduceAdd, reduceCtorEq, CCT, CCv, CCr, CCk, Nat.reduceBNe, Nat.reduceLeDiff, Nat.reduceLT, beqI, bneI, List.length_map, decide_true, decide_false, Int.reduceEq, Int.reduceLT, Int.reduceLE, Int.reduceGE, Int.reduceGT, not_true_eq_false, not_false_eq_true, Bool.and_true, Bool.true_and, Bool.and_false, Bool.false_and, and_true, true_and, and_self, Bool.not_not, h0]
          congr 1
          rw [decide_eq_decide, hstep]
          exact ⟨.inr, fun h => h.resolve_left hc⟩
      · clear hr hx
        rintro ρ σ ⟨h0, h1, h6, h7, h8, h9, h10, hg⟩ K3 hx hr
        have hltq : ¬ (o2.length : Int) < (o2.length : Int) := by omega
        have hio : (intsA o2).length = o2.length := by simp [intsA]
        rw [List.take_length] at h9
        refine W.gw_len hg ty_33 ?_
        simp only [go_sem, ↓reduceIte, Nat.reduceEqDiff, Nat.reduceAdd, reduceCtorEq, CCT, CCv, CCr, CCk, Nat.reduceBNe, Nat.reduceLeDiff, Nat.reduceLT, beqI, bneI, List.length_map, decide_true, decide_false, Int.reduceEq, Int.reduceLT, Int.reduceLE, Int.reduceGE, Int.reduceGT, not_true_eq_false, not_false_eq_true, Bool.and_true, Bool.true_and, Bool.and_false, Bool.false_and, and_true, true_and, and_self, Bool.not_not, hx, h0, h1, h6, h7, h8, h9, h10, hio, hltq]
        refine W.br_ndec (fun hc => ?_) (fun hc => ?_)
        · have hc2 : fk = 2 ∧ ft ∉ o2 := ⟨Decidable.not_not.1 fun h => hc (.inl h), fun h => hc (.inr h)⟩
          have hadd2 : addF o2 ⟨fk, fn, ft, fli, fke⟩ = o2 ++ [ft] := if_pos hc2
          rw [hadd2] at hf2 hadd
          simp only [go_sem, ↓reduceIte, Nat.reduceEqDiff, Nat.reduceAdd, reduceCtorEq, CCT, CCv, CCr, CCk, Nat.reduceBNe, Nat.reduceLeDiff, Nat.reduceLT, beqI, bneI, List.length_map, decide_true, decide_false, Int.reduceEq, Int.reduceLT, Int.reduceLE, Int.reduceGE, Int.reduceGT, not_true_eq_false, not_false_eq_true, Bool.and_true, Bool.true_and, Bool.and_false, Bool.false_and, and_true, true_and, and_self, Bool.not_not, hc, h0, h1, h6, h7, h8, h9, h10, hwrap2]
          refine W.idx_at (by omega) (by omega) ?_
          rw [hat]
          simp only [go_sem, ↓reduceIte, Nat.reduceEqDiff, Nat.reduceAdd, reduceCtorEq, CCT, CCv, CCr, CCk, Nat.reduceBNe, Nat.reduceLeDiff, Nat.reduceLT, beqI, bneI, List.length_map, decide_true, decide_false, Int.reduceEq, Int.reduceLT, Int.reduceLE, Int.reduceGE, Int.reduceGT, not_true_eq_false, not_false_eq_true, Bool.and_true, Bool.true_and, Bool.and_false, Bool.false_and, and_true, true_and, and_self, Bool.not_not, encF, hc, h0, h1, h6, h7, h8, h9, h10, hwrap2]
          refine W.gw_app (T := T) (t := 33) hg (ys := [.int .i64 ft]) (by simp) rfl ?_ ?_ ?_
          · simp only [go_sem, ↓reduceIte, Nat.reduceEqDiff, Nat.reduceAdd, reduceCtorEq, CCT, CCv, CCr, CCk, Nat.reduceBNe, Nat.reduceLeDiff, Nat.reduceLT, beqI, bneI, List.length_map, decide_true, decide_false, Int.reduceEq, Int.reduceLT, Int.reduceLE, Int.reduceGE, Int.reduceGT, not_true_eq_false, not_false_eq_true, Bool.and_true, Bool.true_and, Bool.and_false, Bool.false_and, and_true, true_and, and_self, Bool.not_not, *]
          · exact roomy_of (by rw [hio]; show o2.length + 1 ≤ _; omega) (by decide)
          simp only [go_sem, ↓reduceIte, Nat.reduceEqDiff, Nat.reduceAdd, reduceCtorEq, CCT, CCv, CCr, CCk, Nat.reduceBNe, Nat.reduceLeDiff, Nat.reduceLT, beqI, bneI, List.length_map, decide_true, decide_false, Int.reduceEq, Int.reduceLT, Int.reduceLE, Int.reduceGE, Int.reduceGT, not_true_eq_false, not_false_eq_true, Bool.and_true, Bool.true_and, Bool.and_false, Bool.false_and, and_true, true_and, and_self, Bool.not_not, hc, h0, h1, h6, h7, h8, h9, h10, hwrap2]
          refine hK2 _ _ ?_
          refine ⟨by (try simp only [go_sem, ↓reduceIte, Nat.reduceEqDiff, Nat.reduceAdd, reduceCtorEq, CCT, CCv, CCr, CCk, Nat.reduceBNe, Nat.reduceLeDiff, Nat.reduceLT, beqI, bneI, List.length_map, decide_true, decide_false, Int.reduceEq, Int.reduceLT, Int.reduceLE, Int.reduceGE, Int.reduceGT, not_true_eq_false, not_false_eq_true, Bool.and_true, Bool.true_and, Bool.and_false, Bool.false_and, and_true, true_and, and_self, Bool.not_not, Int.toNat_natCast, List.length_take, *]) <;> (first | done | rfl | omega | (simp; done) | (simp; omega)), by (try simp only [go_sem, ↓reduceIte, Nat.reduceEqDiff, Nat.reduceAdd, reduceCtorEq, CCT, CCv, CCr, CCk, Nat.reduceBNe, Nat.reduceLeDiff, Nat.reduceLT, beqI, bneI, List.length_map, decide_true, decide_false, Int.reduceEq, Int.reduceLT, Int.reduceLE, Int.reduceGE, Int.reduceGT, not_true_eq_false, not_false_eq_true, Bool.and_true, Bool.true_and, Bool.and_false, Bool.false_and, and_true, true_and, and_self, Bool.not_not, Int.toNat_natCast, List.length_take, *]) <;> (first | done | rfl | omega | (simp; done) | (simp; omega)), by (try simp only [go_sem, ↓reduceIte, Nat.reduceEqDiff, Nat.reduceAdd, reduceCtorEq, CCT, CCv, CCr, CCk, Nat.reduceBNe, Nat.reduceLeDiff, Nat.reduceLT, beqI, bneI, List.length_map, decide_true, decide_false, Int.reduceEq, Int.reduceLT, Int.reduceLE, Int.reduceGE, Int.reduceGT, not_true_eq_false, not_false_eq_true, Bool.and_true, Bool.true_and, Bool.and_false, Bool.false_and, and_true, true_and, and_self, Bool.not_not, Int.toNat_natCast, List.length_take, *]) <;> (first | done | rfl | omega | (simp; done) | (simp; omega)), by (try simp only [go_sem, ↓reduceIte, Nat.reduceEqDiff, Nat.reduceAdd, reduceCtorEq, CCT, CCv, CCr, CCk, Nat.reduceBNe, Nat.reduceLeDiff, Nat.reduceLT, beqI, bneI, List.length_map, decide_true, decide_false, Int.reduceEq, Int.reduceLT, Int.reduceLE, Int.reduceGE, Int.reduceGT, not_true_eq_false, not_false_eq_true, Bool.and_true, Bool.true_and, Bool.and_false, Bool.false_and, and_true, true_and, and_self, Bool.not_not, Int.toNat_natCast, List.length_take, *]) <;> (first | done | rfl | omega | (simp; done) | (simp; omega)), by (try simp only [go_sem, ↓reduceIte, Nat.reduceEqDiff, Nat.reduceAdd, reduceCtorEq, CCT, CCv, CCr, CCk, Nat.reduceBNe, Nat.reduceLeDiff, Nat.reduceLT, beqI, bneI, List.length_map, decide_true, decide_false, Int.reduceEq, Int.reduceLT, Int.reduceLE, Int.reduceGE, Int.reduceGT, not_true_eq_false, not_false_eq_true, Bool.and_true, Bool.true_and, Bool.and_false, Bool.false_and, and_true, true_and, and_self, Bool.not_not, Int.toNat_natCast, List.length_take, *]) <;> (first | done | rfl | omega | (simp; done) | (simp; omega)), o2 ++ [ft], some σ.ntok, ?_, hadd, hf2⟩
          simp only [go_sem, ↓reduceIte, Nat.reduceEqDiff, Nat.reduceAdd, reduceCtorEq, CCT, CCv, CCr, CCk, Nat.reduceBNe, Nat.reduceLeDiff, Nat.reduceLT, beqI, bneI, List.length_map, decide_true, decide_false, Int.reduceEq, Int.reduceLT, Int.reduceLE, Int.reduceGE, Int.reduceGT, not_true_eq_false, not_false_eq_true, Bool.and_true, Bool.true_and, Bool.and_false, Bool.false_and, and_true, true_and, and_self, Bool.not_not, h0]
          rw [show intsA o2 ++ [.int .i64 ft] = intsA (o2 ++ [ft]) by simp [intsA]]
          exact .new (by simp [intsA])
        · have hadd2 : addF o2 ⟨fk, fn, ft, fli, fke⟩ = o2 := if_neg (fun h => hc.elim (fun hh => hh h.1) h.2)
          rw [hadd2] at hf2
          simp only [go_sem, ↓reduceIte, Nat.reduceEqDiff, Nat.reduceAdd, reduceCtorEq, CCT, CCv, CCr, CCk, Nat.reduceBNe, Nat.reduceLeDiff, Nat.reduceLT, beqI, bneI, List.length_map, decide_true, decide_false, Int.reduceEq, Int.reduceLT, Int.reduceLE, Int.reduceGE, Int.reduceGT, not_true_eq_false, not_false_eq_true, Bool.and_true, Bool.true_and, Bool.and_false, Bool.false_and, and_true, true_and, and_self, Bool.not_not, hc, h0, h1, h6, h7, h8, h9, h10, hwrap2]
          refine hK2 _ _ ?_
          exact ⟨by (try simp only [go_sem, ↓reduceIte, Nat.reduceEqDiff, Nat.reduceAdd, reduceCtorEq, CCT, CCv, CCr, CCk, Nat.reduceBNe, Nat.reduceLeDiff, Nat.reduceLT, beqI, bneI, List.length_map, decide_true, decide_false, Int.reduceEq, Int.reduceLT, Int.reduceLE, Int.reduceGE, Int.reduceGT, not_true_eq_false, not_false_eq_true, Bool.and_true, Bool.true_and, Bool.and_false, Bool.false_and, and_true, true_and, and_self, Bool.not_not, Int.toNat_natCast, List.length_take, *]) <;> (first | done | rfl | omega | (simp; done) | (simp; omega)), by (try simp only [go_sem, ↓reduceIte, Nat.reduceEqDiff, Nat.reduceAdd, reduceCtorEq, CCT, CCv, CCr, CCk, Nat.reduceBNe, Nat.reduceLeDiff, Nat.reduceLT, beqI, bneI, List.length_map, decide_true, decide_false, Int.reduceEq, Int.reduceLT, Int.reduceLE, Int.reduceGE, Int.reduceGT, not_true_eq_false, not_false_eq_true, Bool.and_true, Bool.true_and, Bool.and_false, Bool.false_and, and_true, true_and, and_self, Bool.not_not, Int.toNat_natCast, List.length_take, *]) <;> (first | done | rfl | omega | (simp; done) | (simp; omega)), by (try simp only [go_sem, ↓reduceIte, Nat.reduceEqDiff, Nat.reduceAdd, reduceCtorEq, CCT, CCv, CCr, CCk, Nat.reduceBNe, Nat.reduceLeDiff, Nat.reduceLT, beqI, bneI, List.length_map, decide_true, decide_false, Int.reduceEq, Int.reduceLT, Int.reduceLE, Int.reduceGE, Int.reduceGT, not_true_eq_false, not_false_eq_true, Bool.and_true, Bool.true_and, Bool.and_false, Bool.false_and, and_true, true_and, and_self, Bool.not_not, Int.toNat_natCast, List.length_take, *]) <;> (first | done | rfl | omega | (simp; done) | (simp; omega)), by (try simp only [go_sem, ↓reduceIte, Nat.reduceEqDiff, Nat.reduceAdd, reduceCtorEq, CCT, CCv, CCr, CCk, Nat.reduceBNe, Nat.reduceLeDiff, Nat.reduceLT, beqI, bneI, List.length_map, decide_true, decide_false, Int.reduceEq, Int.reduceLT, Int.reduceLE, Int.reduceGE, Int.reduceGT, not_true_eq_false, not_false_eq_true, Bool.and_true, Bool.true_and, Bool.and_false, Bool.false_and, and_true, true_and, and_self, Bool.not_not, Int.toNat_natCast, List.length_take, *]) <;> (first | done | rfl | omega | (simp; done) | (simp; omega)), by (try simp only [go_sem, ↓reduceIte, Nat.reduceEqDiff, Nat.reduceAdd, reduceCtorEq, CCT, CCv, CCr, CCk, Nat.reduceBNe, Nat.reduceLeDiff, Nat.reduceLT, beqI, bneI, List.length_map, decide_true, decide_false, Int.reduceEq, Int.reduceLT, Int.reduceLE, Int.reduceGE, Int.reduceGT, not_true_eq_false, not_false_eq_true, Bool.and_true, Bool.true_and, Bool.and_false, Bool.false_and, and_true, true_and, and_self, Bool.not_not, Int.toNat_natCast, List.length_take, *]) <;> (first | done | rfl | omega | (simp; done) | (simp; omega)), o2, kk, by simp only [go_sem, ↓reduceIte, Nat.reduceEqDiff, Nat.reduceAdd, reduceCtorEq, CCT, CCv, CCr, CCk, Nat.reduceBNe, Nat.reduceLeDiff, Nat.reduceLT, beqI, bneI, List.length_map, decide_true, decide_false, Int.reduceEq, Int.reduceLT, Int.reduceLE, Int.reduceGE, Int.reduceGT, not_true_eq_false, not_false_eq_true, Bool.and_true, Bool.true_and, Bool.and_false, Bool.false_and, and_true, true_and, and_self, Bool.not_not, h0]; exact hg, hfew, hf2⟩
      · show o2.length < 0 + 9223372036854775900
        omega
      · refine ⟨by (try simp only [go_sem, ↓reduceIte, Nat.reduceEqDiff, Nat.reduceAdd, reduceCtorEq, CCT, CCv, CCr, CCk, Nat.reduceBNe, Nat.reduceLeDiff, Nat.reduceLT, beqI, bneI, List.length_map, decide_true, decide_false, Int.reduceEq, Int.reduceLT, Int.reduceLE, Int.reduceGE, Int.reduceGT, not_true_eq_false, not_false_eq_true, Bool.and_true, Bool.true_and, Bool.and_false, Bool.false_and, and_true, true_and, and_self, Bool.not_not, Int.toNat_natCast, List.length_take, *]) <;> (first | done | rfl | omega | (simp; done) | (simp; omega)), by (try simp only [go_sem, ↓reduceIte, Nat.reduceEqDiff, Nat.reduceAdd, reduceCtorEq, CCT, CCv, CCr, CCk, Nat.reduceBNe, Nat.reduceLeDiff, Nat.reduceLT, beqI, bneI, List.length_map, decide_true, decide_false, Int.reduceEq, Int.reduceLT, Int.reduceLE, Int.reduceGE, Int.reduceGT, not_true_eq_false, not_false_eq_true, Bool.and_true, Bool.true_and, Bool.and_false, Bool.false_and, and_true, true_and, and_self, Bool.not_not, Int.toNat_natCast, List.length_take, *]) <;> (first | done | rfl | omega | (simp; done) | (simp; omega)), by (try simp only [go_sem, ↓reduceIte, Nat.reduceEqDiff, Nat.reduceAdd, reduceCtorEq, CCT, CCv, CCr, CCk, Nat.reduceBNe, Nat.reduceLeDiff, Nat.reduceLT, beqI, bneI, List.length_map, decide_true, decide_false, Int.reduceEq, Int.reduceLT, Int.reduceLE, Int.reduceGE, Int.reduceGT, not_true_eq_false, not_false_eq_true, Bool.and_true, Bool.true_and, Bool.and_false, Bool.false_and, and_true, true_and, and_self, Bool.not_not, Int.toNat_natCast, List.length_take, *]) <;> (first | done | rfl | omega | (simp; done) | (simp; omega)), by (try simp only [go_sem, ↓reduceIte, Nat.reduceEqDiff, Nat.reduceAdd, reduceCtorEq, CCT, CCv, CCr, CCk, Nat.reduceBNe, Nat.reduceLeDiff, Nat.reduceLT, beqI, bneI, List.length_map, decide_true, decide_false, Int.reduceEq, Int.reduceLT, Int.reduceLE, Int.reduceGE, Int.reduceGT, not_true_eq_false, not_false_eq_true, Bool.and_true, Bool.true_and, Bool.and_false, Bool.false_and, and_true, true_and, and_self, Bool.not_not, Int.toNat_natCast, List.length_take, *]) <;> (first | done | rfl | omega | (simp; done) | (simp; omega)), by (try simp only [go_sem, ↓reduceIte, Nat.reduceEqDiff, Nat.reduceAdd, reduceCtorEq, CCT, CCv, CCr, CCk, Nat.reduceBNe, Nat.reduceLeDiff, Nat.reduceLT, beqI, bneI, List.length_map, decide_true, decide_false, Int.reduceEq, Int.reduceLT, Int.reduceLE, Int.reduceGE, Int.reduceGT, not_true_eq_false, not_false_eq_true, Bool.and_true, Bool.true_and, Bool.and_false, Bool.false_and, and_true, true_and, and_self, Bool.not_not, Int.toNat_natCast, List.length_take, *]) <;> (first | done | rfl | omega | (simp; done) | (simp; omega)), ?_, by (try simp only [go_sem, ↓reduceIte, Nat.reduceEqDiff, Nat.reduceAdd, reduceCtorEq, CCT, CCv, CCr, CCk, Nat.reduceBNe, Nat.reduceLeDiff, Nat.reduceLT, beqI, bneI, List.length_map, decide_true, decide_false, Int.reduceEq, Int.reduceLT, Int.reduceLE, Int.reduceGE, Int.reduceGT, not_true_eq_false, not_false_eq_true, Bool.and_true, Bool.true_and, Bool.and_false, Bool.false_and, and_true, true_and, and_self, Bool.not_not, Int.toNat_natCast, List.length_take, *]) <;> (first | done | rfl | omega | (simp; done) | (simp; omega)), by simp only [go_sem, ↓reduceIte, Nat.reduceEqDiff, Nat.reduceAdd, reduceCtorEq, CCT, CCv, CCr, CCk, Nat.reduceBNe, Nat.reduceLeDiff, Nat.reduceLT, beqI, bneI, List.length_map, decide_true, decide_false, Int.reduceEq, Int.reduceLT, Int.reduceLE, Int.reduceGE, Int.reduceGT, not_true_eq_false, not_false_eq_true, Bool.and_true, Bool.true_and, Bool.and_false, Bool.false_and, and_true, true_and, and_self, Bool.not_not, h0]; exact hg⟩
        simp only [go_sem, ↓reduceIte, Nat.reduceEqDiff, Nat.reduceAdd, reduceCtorEq, CCT, CCv, CCr, CCk, Nat.reduceBNe, Nat.reduceLeDiff, Nat.reduceLT, beqI, bneI, List.length_map, decide_true, decide_false, Int.reduceEq, Int.reduceLT, Int.reduceLE, Int.reduceGE, Int.reduceGT, not_true_eq_false, not_false_eq_true, Bool.and_true, Bool.true_and, Bool.and_false, Bool.false_and, and_true, true_and, and_self, Bool.not_not, e0]
    · clear hr hx
      rintro ρ σ ⟨h0, h1, h6, h7, h8, o2, kk, hg, hfew, hf2⟩ K2 hx hr
      have hlt : ¬ (fs.length : Int) < (fs.length : Int) := by omega
      rw [List.drop_length] at hf2
      simp only [List.foldl_nil] at hf2
      simp only [go_sem, ↓reduceIte, Nat.reduceEqDiff, Nat.reduceAdd, reduceCtorEq, CCT, CCv, CCr, CCk, Nat.reduceBNe, Nat.reduceLeDiff, Nat.reduceLT, beqI, bneI, List.length_map, decide_true, decide_false, Int.reduceEq, Int.reduceLT, Int.reduceLE, Int.reduceGE, Int.reduceGT, not_true_eq_false, not_false_eq_true, Bool.and_true, Bool.true_and, Bool.and_false, Bool.false_and, and_true, true_and, and_self, Bool.not_not, hx, h0, h1, h6, h7, h8, hlt, hwrap]
      refine hK _ _ ?_
      exact ⟨by (try simp only [go_sem, ↓reduceIte, Nat.reduceEqDiff, Nat.reduceAdd, reduceCtorEq, CCT, CCv, CCr, CCk, Nat.reduceBNe, Nat.reduceLeDiff, Nat.reduceLT, beqI, bneI, List.length_map, decide_true, decide_false, Int.reduceEq, Int.reduceLT, Int.reduceLE, Int.reduceGE, Int.reduceGT, not_true_eq_false, not_false_eq_true, Bool.and_true, Bool.true_and, Bool.and_false, Bool.false_and, and_true, true_and, and_self, Bool.not_not, Int.toNat_natCast, List.length_take, *]) <;> (first | done | rfl | omega | (simp; done) | (simp; omega)), by (try simp only [go_sem, ↓reduceIte, Nat.reduceEqDiff, Nat.reduceAdd, reduceCtorEq, CCT, CCv, CCr, CCk, Nat.reduceBNe, Nat.reduceLeDiff, Nat.reduceLT, beqI, bneI, List.length_map, decide_true, decide_false, Int.reduceEq, Int.reduceLT, Int.reduceLE, Int.reduceGE, Int.reduceGT, not_true_eq_false, not_false_eq_true, Bool.and_true, Bool.true_and, Bool.and_false, Bool.false_and, and_true, true_and, and_self, Bool.not_not, Int.toNat_natCast, List.length_take, *]) <;> (first | done | rfl | omega | (simp; done) | (simp; omega)), by (try simp only [go_sem, ↓reduceIte, Nat.reduceEqDiff, Nat.reduceAdd, reduceCtorEq, CCT, CCv, CCr, CCk, Nat.reduceBNe, Nat.reduceLeDiff, Nat.reduceLT, beqI, bneI, List.length_map, decide_true, decide_false, Int.reduceEq, Int.reduceLT, Int.reduceLE, Int.reduceGE, Int.reduceGT, not_true_eq_false, not_false_eq_true, Bool.and_true, Bool.true_and, Bool.and_false, Bool.false_and, and_true, true_and, and_self, Bool.not_not, Int.toNat_natCast, List.length_take, *]) <;> (first | done | rfl | omega | (simp; done) | (simp; omega)), o2, kk, by simp only [go_sem, ↓reduceIte, Nat.reduceEqDiff, Nat.reduceAdd, reduceCtorEq, CCT, CCv, CCr, CCk, Nat.reduceBNe, Nat.reduceLeDiff, Nat.reduceLT, beqI, bneI, List.length_map, decide_true, decide_false, Int.reduceEq, Int.reduceLT, Int.reduceLE, Int.reduceGE, Int.reduceGT, not_true_eq_false, not_false_eq_true, Bool.and_true, Bool.true_and, Bool.and_false, Bool.false_and, and_true, true_and, and_self, Bool.not_not, h0]; exact hg, hfew, by rw [hf2]; exact hfold⟩
    · show fs.length < 0 + 9223372036854775900
      omega
    · exact ⟨by (try simp only [go_sem, ↓reduceIte, Nat.reduceEqDiff, Nat.reduceAdd, reduceCtorEq, CCT, CCv, CCr, CCk, Nat.reduceBNe, Nat.reduceLeDiff, Nat.reduceLT, beqI, bneI, List.length_map, decide_true, decide_false, Int.reduceEq, Int.reduceLT, Int.reduceLE, Int.reduceGE, Int.reduceGT, not_true_eq_false, not_false_eq_true, Bool.and_true, Bool.true_and, Bool.and_false, Bool.false_and, and_true, true_and, and_self, Bool.not_not, Int.toNat_natCast, List.length_take, *]) <;> (first | done | rfl | omega | (simp; done) | (simp; omega)), by (try simp only [go_sem, ↓reduceIte, Nat.reduceEqDiff, Nat.reduceAdd, reduceCtorEq, CCT, CCv, CCr, CCk, Nat.reduceBNe, Nat.reduceLeDiff, Nat.reduceLT, beqI, bneI, List.length_map, decide_true, decide_false, Int.reduceEq, Int.reduceLT, Int.reduceLE, Int.reduceGE, Int.reduceGT, not_true_eq_false, not_false_eq_true, Bool.and_true, Bool.true_and, Bool.and_false, Bool.false_and, and_true, true_and, and_self, Bool.not_not, Int.toNat_natCast, List.length_take, *]) <;> (first | done | rfl | omega | (simp; done) | (simp; omega)), by (try simp only [go_sem, ↓reduceIte, Nat.reduceEqDiff, Nat.reduceAdd, reduceCtorEq, CCT, CCv, CCr, CCk, Nat.reduceBNe, Nat.reduceLeDiff, Nat.reduceLT, beqI, bneI, List.length_map, decide_true, decide_false, Int.reduceEq, Int.reduceLT, Int.reduceLE, Int.reduceGE, Int.reduceGT, not_true_eq_false, not_false_eq_true, Bool.and_true, Bool.true_and, Bool.and_false, Bool.false_and, and_true, true_and, and_self, Bool.not_not, Int.toNat_natCast, List.length_take, *]) <;> (first | done | rfl | omega | (simp; done) | (simp; omega)), by (try simp only [go_sem, ↓reduceIte, Nat.reduceEqDiff, Nat.reduceAdd, reduceCtorEq, CCT, CCv, CCr, CCk, Nat.reduceBNe, Nat.reduceLeDiff, Nat.reduceLT, beqI, bneI, List.length_map, decide_true, decide_false, Int.reduceEq, Int.reduceLT, Int.reduceLE, Int.reduceGE, Int.reduceGT, not_true_eq_false, not_false_eq_true, Bool.and_true, Bool.true_and, Bool.and_false, Bool.false_and, and_true, true_and, and_self, Bool.not_not, Int.toNat_natCast, List.length_take, *]) <;> (first | done | rfl | omega | (simp; done) | (simp; omega)), by (try simp only [go_sem, ↓reduceIte, Nat.reduceEqDiff, Nat.reduceAdd, reduceCtorEq, CCT, CCv, CCr, CCk, Nat.reduceBNe, Nat.reduceLeDiff, Nat.reduceLT, beqI, bneI, List.length_map, decide_true, decide_false, Int.reduceEq, Int.reduceLT, Int.reduceLE, Int.reduceGE, Int.reduceGT, not_true_eq_false, not_false_eq_true, Bool.and_true, Bool.true_and, Bool.and_false, Bool.false_and, and_true, true_and, and_self, Bool.not_not, Int.toNat_natCast, List.length_take, *]) <;> (first | done | rfl | omega | (simp; done) | (simp; omega)), out, kk, by simp only [go_sem, ↓reduceIte, Nat.reduceEqDiff, Nat.reduceAdd, reduceCtorEq, CCT, CCv, CCr, CCk, Nat.reduceBNe, Nat.reduceLeDiff, Nat.reduceLT, beqI, bneI, List.length_map, decide_true, decide_false, Int.reduceEq, Int.reduceLT, Int.reduceLE, Int.reduceGE, Int.reduceGT, not_true_eq_false, not_false_eq_true, Bool.and_true, Bool.true_and, Bool.and_false, Bool.false_and, and_true, true_and, and_self, Bool.not_not, *], hfew, rfl⟩
  · rintro ρ σ ⟨h0, h1, h6, out, kk, hg, hfew, hfold⟩ K hx hr
    have hlt : ¬ (s.length : Int) < (s.length : Int) := by omega
    rw [List.drop_length] at hfold
    simp only [List.foldl_nil] at hfold
    subst hfold
    have hcv := gw_comp hg
    simp only [go_sem, ↓reduceIte, Nat.reduceEqDiff, Nat.reduceAdd, reduceCtorEq, CCT, CCv, CCr, CCk, Nat.reduceBNe, Nat.reduceLeDiff, Nat.reduceLT, beqI, bneI, List.length_map, decide_true, decide_false, Int.reduceEq, Int.reduceLT, Int.reduceLE, Int.reduceGE, Int.reduceGT, not_true_eq_false, not_false_eq_true, Bool.and_true, Bool.true_and, Bool.and_false, Bool.false_and, and_true, true_and, and_self, Bool.not_not, hx, h0, h1, h6, hlt, hil, hcv]
    refine W.gw_ret hg ?_
    have hx2 : intsA (reachedS l s) ≠ [] := by simpa [intsA] using reachedS_ne l hne
    rw [← hX]
    simp only [growR, if_neg hx2, valSt]
    rfl
  · show s.length < 0 + 9223372036854775900
    omega
  · refine ⟨by (try simp only [go_sem, ↓reduceIte, Nat.reduceEqDiff, Nat.reduceAdd, reduceCtorEq, CCT, CCv, CCr, CCk, Nat.reduceBNe, Nat.reduceLeDiff, Nat.reduceLT, beqI, bneI, List.length_map, decide_true, decide_false, Int.reduceEq, Int.reduceLT, Int.reduceLE, Int.reduceGE, Int.reduceGT, not_true_eq_false, not_false_eq_true, Bool.and_true, Bool.true_and, Bool.and_false, Bool.false_and, and_true, true_and, and_self, Bool.not_not, Int.toNat_natCast, List.length_take, *]) <;> (first | done | rfl | omega | (simp; done) | (simp; omega)), by (try simp only [go_sem, ↓reduceIte, Nat.reduceEqDiff, Nat.reduceAdd, reduceCtorEq, CCT, CCv, CCr, CCk, Nat.reduceBNe, Nat.reduceLeDiff, Nat.reduceLT, beqI, bneI, List.length_map, decide_true, decide_false, Int.reduceEq, Int.reduceLT, Int.reduceLE, Int.reduceGE, Int.reduceGT, not_true_eq_false, not_false_eq_true, Bool.and_true, Bool.true_and, Bool.and_false, Bool.false_and, and_true, true_and, and_self, Bool.not_not, Int.toNat_natCast, List.length_take, *]) <;> (first | done | rfl | omega | (simp; done) | (simp; omega)), by (try simp only [go_sem, ↓reduceIte, Nat.reduceEqDiff, Nat.reduceAdd, reduceCtorEq, CCT, CCv, CCr, CCk, Nat.reduceBNe, Nat.reduceLeDiff, Nat.reduceLT, beqI, bneI, List.length_map, decide_true, decide_false, Int.reduceEq, Int.reduceLT, Int.reduceLE, Int.reduceGE, Int.reduceGT, not_true_eq_false, not_false_eq_true, Bool.and_true, Bool.true_and, Bool.and_false, Bool.false_and, and_true, true_and, and_self, Bool.not_not, Int.toNat_natCast, List.length_take, *]) <;> (first | done | rfl | omega | (simp; done) | (simp; omega)), s, some 0, ?_, hs, rfl⟩
    simp only [go_sem, ↓reduceIte, Nat.reduceEqDiff, Nat.reduceAdd, reduceCtorEq, CCT, CCv, CCr, CCk, Nat.reduceBNe, Nat.reduceLeDiff, Nat.reduceLT, beqI, bneI, List.length_map, decide_true, decide_false, Int.reduceEq, Int.reduceLT, Int.reduceLE, Int.reduceGE, Int.reduceGT, not_true_eq_false, not_false_eq_true, Bool.and_true, Bool.true_and, Bool.and_false, Bool.false_and, and_true, true_and, and_self, Bool.not_not, hil]
    exact .new (by simpa [intsA] using hne)
theorem Reached_mt (d : Nat) (bl : Bool) (l : List Typ) : evalF Try.prog CC (d + 3) 42 [encTs bl l, .mt true] St.empty = some (.list 3 false [] (some 1), valSt1 (.list 3 false [] (some 1))) := by
  have hrm : roomy T 3 (0 + 0) = true := roomy_of (by omega) (by decide)
  refine wp_eq ?_
  rw [run_42 _ _ _ (by simp)]; unfold Try.f42; simp only [Option.getD_some]
  simp only [encTs]
  simp only [go_sem, ↓reduceIte, Nat.reduceEqDiff, Nat.reduceAdd, reduceCtorEq, CCT, CCv, CCr, CCk, Nat.reduceBNe, Nat.reduceLeDiff, Nat.reduceLT, beqI, bneI, List.length_map, decide_true, decide_false, Int.reduceEq, Int.reduceLT, Int.reduceLE, Int.reduceGE, Int.reduceGT, not_true_eq_false, not_false_eq_true, Bool.and_true, Bool.true_and, Bool.and_false, Bool.false_and, and_true, true_and, and_self, Bool.not_not, *]
  refine W.iter_rule (fun i ρ σ => ρ 1 = .mt true ∧ ρ 5 = .list 3 false [] (some 1) ∧ ρ 6 = .int .i64 0 ∧ σ.live 0 = true) 0 (fun i ρ σ hi => absurd hi (Nat.not_lt_zero _)) ?_ _ 0 _ _ (Nat.zero_le _) (by decide) ⟨by (try simp only [go_sem, ↓reduceIte, Nat.reduceEqDiff, Nat.reduceAdd, reduceCtorEq, CCT, CCv, CCr, CCk, Nat.reduceBNe, Nat.reduceLeDiff, Nat.reduceLT, beqI, bneI, List.length_map, decide_true, decide_false, Int.reduceEq, Int.reduceLT, Int.reduceLE, Int.reduceGE, Int.reduceGT, not_true_eq_false, not_false_eq_true, Bool.and_true, Bool.true_and, Bool.and_false, Bool.false_and, and_true, true_and, and_self, Bool.not_not, Int.toNat_natCast, List.length_take, *]) <;> (first | done | rfl | omega | (simp; done) | (simp; omega)), by (try simp only [go_sem, ↓reduceIte, Nat.reduceEqDiff, Nat.reduceAdd, reduceCtorEq, CCT, CCv, CCr, CCk, Nat.reduceBNe, Nat.reduceLeDiff, Nat.reduceLT, beqI, bneI, List.length_map, decide_true, decide_false, Int.reduceEq, Int.reduceLT, Int.reduceLE, Int.reduceGE, Int.reduceGT, not_true_eq_false, not_false_eq_true, Bool.and_true, Bool.true_and, Bool.and_false, Bool.false_and, and_true, true_and, and_self, Bool.not_not, Int.toNat_natCast, List.length_take, *]) <;> (first | done | rfl | omega | (simp; done) | (simp; omega)), by (try simp only [go_sem, ↓reduceIte, Nat.reduceEqDiff, Nat.reduceAdd, reduceCtorEq, CCT, CCv, CCr, CCk, Nat.reduceBNe, Nat.reduceLeDiff, Nat.reduceLT, beqI, bneI, List.length_map, decide_true, decide_false, Int.reduceEq, Int.reduceLT, Int.reduceLE, Int.reduceGE, Int.reduceGT, not_true_eq_false, not_false_eq_true, Bool.and_true, Bool.true_and, Bool.and_false, Bool.false_and, and_true, true_and, and_self, Bool.not_not, Int.toNat_natCast, List.length_take, *]) <;> (first | done | rfl | omega | (simp; done) | (simp; omega)), by simp only [go_sem, ↓reduceIte, Nat.reduceEqDiff, Nat.reduceAdd, reduceCtorEq, CCT, CCv, CCr, CCk, Nat.reduceBNe, Nat.reduceLeDiff, Nat.reduceLT, beqI, bneI, List.length_map, decide_true, decide_false, Int.reduceEq, Int.reduceLT, Int.reduceLE, Int.reduceGE, Int.reduceGT, not_true_eq_false, not_false_eq_true, Bool.and_true, Bool.true_and, Bool.and_false, Bool.false_and, and_true, true_and, and_self, Bool.not_not, *]⟩
  rintro ρ σ ⟨h1, h5, h6, hlv⟩ K hx hr
  have h00 : ((0 : Nat) : Int) = 0 := rfl
  simp only [go_sem, ↓reduceIte, Nat.reduceEqDiff, Nat.reduceAdd, reduceCtorEq, CCT, CCv, CCr, CCk, Nat.reduceBNe, Nat.reduceLeDiff, Nat.reduceLT, beqI, bneI, List.length_map, decide_true, decide_false, Int.reduceEq, Int.reduceLT, Int.reduceLE, Int.reduceGE, Int.reduceGT, not_true_eq_false, not_false_eq_true, Bool.and_true, Bool.true_and, Bool.and_false, Bool.false_and, and_true, true_and, and_self, Bool.not_not, hx, h1, h5, h6, hlv, h00, List.length_nil]
  rfl
theorem Reached_e (d : Nat) (bl b : Bool) (k : Option Nat) (l : List Typ) : evalF Try.prog CC (d + 3) 42 [encTs bl l, .list 3 b [] k] St.empty = some (.list 3 false [] (some 1), valSt1 (.list 3 false [] (some 1))) := by
  have hrm : roomy T 3 (0 + 0) = true := roomy_of (by omega) (by decide)
  refine wp_eq ?_
  rw [run_42 _ _ _ (by simp)]; unfold Try.f42; simp only [Option.getD_some]
  simp only [encTs]
  simp only [go_sem, ↓reduceIte, Nat.reduceEqDiff, Nat.reduceAdd, reduceCtorEq, CCT, CCv, CCr, CCk, Nat.reduceBNe, Nat.reduceLeDiff, Nat.reduceLT, beqI, bneI, List.length_map, decide_true, decide_false, Int.reduceEq, Int.reduceLT, Int.reduceLE, Int.reduceGE, Int.reduceGT, not_true_eq_false, not_false_eq_true, Bool.and_true, Bool.true_and, Bool.and_false, Bool.false_and, and_true, true_and, and_self, Bool.not_not, *]
  refine W.iter_rule (fun i ρ σ => ρ 1 = .list 3 b [] k ∧ ρ 5 = .list 3 false [] (some 1) ∧ ρ 6 = .int .i64 0 ∧ σ.live 0 = true) 0 (fun i ρ σ hi => absurd hi (Nat.not_lt_zero _)) ?_ _ 0 _ _ (Nat.zero_le _) (by decide) ⟨by (try simp only [go_sem, ↓reduceIte, Nat.reduceEqDiff, Nat.reduceAdd, reduceCtorEq, CCT, CCv, CCr, CCk, Nat.reduceBNe, Nat.reduceLeDiff, Nat.reduceLT, beqI, bneI, List.length_map, decide_true, decide_false, Int.reduceEq, Int.reduceLT, Int.reduceLE, Int.reduceGE, Int.reduceGT, not_true_eq_false, not_false_eq_true, Bool.and_true, Bool.true_and, Bool.and_false, Bool.false_and, and_true, true_and, and_self, Bool.not_not, Int.toNat_natCast, List.length_take, *]) <;> (first | done | rfl | omega | (simp; done) | (simp; omega)), by (try simp only [go_sem, ↓reduceIte, Nat.reduceEqDiff, Nat.reduceAdd, reduceCtorEq, CCT, CCv, CCr, CCk, Nat.reduceBNe, Nat.reduceLeDiff, Nat.reduceLT, beqI, bneI, List.length_map, decide_true, decide_false, Int.reduceEq, Int.reduceLT, Int.reduceLE, Int.reduceGE, Int.reduceGT, not_true_eq_false, not_false_eq_true, Bool.and_true, Bool.true_and, Bool.and_false, Bool.false_and, and_true, true_and, and_self, Bool.not_not, Int.toNat_natCast, List.length_take, *]) <;> (first | done | rfl | omega | (simp; done) | (simp; omega)), by (try simp only [go_sem, ↓reduceIte, Nat.reduceEqDiff, Nat.reduceAdd, reduceCtorEq, CCT, CCv, CCr, CCk, Nat.reduceBNe, Nat.reduceLeDiff, Nat.reduceLT, beqI, bneI, List.length_map, decide_true, decide_false, Int.reduceEq, Int.reduceLT, Int.reduceLE, Int.reduceGE, Int.reduceGT, not_true_eq_false, not_false_eq_true, Bool.and_true, Bool.true_and, Bool.and_false, Bool.false_and, and_true, true_and, and_self, Bool.not_not, Int.toNat_natCast, List.length_take, *]) <;> (first | done | rfl | omega | (simp; done) | (simp; omega)), by simp only [go_sem, ↓reduceIte, Nat.reduceEqDiff, Nat.reduceAdd, reduceCtorEq, CCT, CCv, CCr, CCk, Nat.reduceBNe, Nat.reduceLeDiff, Nat.reduceLT, beqI, bneI, List.length_map, decide_true, decide_false, Int.reduceEq, Int.reduceLT, Int.reduceLE, Int.reduceGE, Int.reduceGT, not_true_eq_false, not_false_eq_true, Bool.and_true, Bool.true_and, Bool.and_false, Bool.false_and, and_true, true_and, and_self, Bool.not_not, *]⟩
  rintro ρ σ ⟨h1, h5, h6, hlv⟩ K hx hr
  have h00 : ((0 : Nat) : Int) = 0 := rfl
  simp only [go_sem, ↓reduceIte, Nat.reduceEqDiff, Nat.reduceAdd, reduceCtorEq, CCT, CCv, CCr, CCk, Nat.reduceBNe, Nat.reduceLeDiff, Nat.reduceLT, beqI, bneI, List.length_map, decide_true, decide_false, Int.reduceEq, Int.reduceLT, Int.reduceLE, Int.reduceGE, Int.reduceGT, not_true_eq_false, not_false_eq_true, Bool.and_true, Bool.true_and, Bool.and_false, Bool.false_and, and_true, true_and, and_self, Bool.not_not, hx, h1, h5, h6, hlv, h00, List.length_nil]
  rfl
end Go.Proofs.Ytjembadjfiohpaa.Va

/- chapter 5: the document's: does a type lead to itself -/
namespace Go.Proofs.Ytjembadjfiohpaa.Va
open Go
set_option linter.unusedVariables false
set_option linter.unusedSimpArgs false
set_option maxRecDepth 100000
/-- v is a row of the elements xs. -/
def Sl (e : TypeId) (xs : List AV) (v : AV) : Prop := (xs = [] ∧ v = .mt true) ∨ ∃ b k, v = .list e b xs k
theorem Gw.sl {e : TypeId} {xs : List AV} {σ : St} {v : AV} {k : Option Nat} (h : Gw e xs σ v k) : Sl e xs v := by
  rcases h with ⟨rfl, rfl, _⟩ | ⟨_, t, _, rfl, _⟩
  · exact .inl ⟨rfl, rfl⟩
  · exact .inr ⟨_, _, rfl⟩
def ptrs (fs : List Fld) : List Int := (fs.filter fun f => decide (f.kind = 2)).map Fld.type
theorem ptrs_mem {fs : List Fld} {y : Int} : y ∈ ptrs fs ↔ ∃ f ∈ fs, f.kind = 2 ∧ f.type = y := by
  simp only [ptrs, List.mem_map, List.mem_filter, decide_eq_true_eq]
  constructor
  · rintro ⟨f, ⟨h1, h2⟩, h3⟩; exact ⟨f, h1, h2, h3⟩
  · rintro ⟨f, h1, h2, h3⟩; exact ⟨f, ⟨h1, h2⟩, h3⟩
def rounds (l : List Typ) : Nat → List Int → List Int
  | 0, s => s
  | n + 1, s => rounds l n (reachedS l s)
theorem addF_sub {out : List Int} {f : Fld} {x : Int} (h : x ∈ out) : x ∈ addF out f := by
  unfold addF; split
  · exact List.mem_append_left _ h
  · exact h
theorem addF_new {out : List Int} {f : Fld} {x : Int} (h : x ∈ addF out f) : x ∈ out ∨ (f.kind = 2 ∧ f.type = x) := by
  unfold addF at h; split at h
  · rename_i hc
    rcases List.mem_append.1 h with h | h
    · exact .inl h
    · simp only [List.mem_singleton] at h; exact .inr ⟨hc.1, h.symm⟩
  · exact .inl h
theorem addF_has {out : List Int} {f : Fld} (h : f.kind = 2) : f.type ∈ addF out f := by
  unfold addF
  by_cases hm : f.type ∈ out
  · rw [if_neg (fun hc => hc.2 hm)]; exact hm
  · rw [if_pos ⟨h, hm⟩]; simp
theorem addFs_sub : ∀ (fs : List Fld) {out : List Int} {x : Int}, x ∈ out → x ∈ fs.foldl addF out
  | [], out, x, h => h
  | f :: fs, out, x, h => addFs_sub fs (addF_sub h)
theorem addFs_mem : ∀ (fs : List Fld) {out : List Int} {x : Int}, x ∈ fs.foldl addF out → x ∈ out ∨ ∃ f ∈ fs, f.kind = 2 ∧ f.type = x
  | [], out, x, h => .inl h
  | f :: fs, out, x, h => by
    rcases addFs_mem fs h with h | ⟨g, h1, h2⟩
    · rcases addF_new h with h | h
      · exact .inl h
      · exact .inr ⟨f, by simp, h⟩
    · exact .inr ⟨g, by simp [h1], h2⟩
theorem addFs_has : ∀ (fs : List Fld) {out : List Int} {f : Fld}, f ∈ fs → f.kind = 2 → f.type ∈ fs.foldl addF out
  | g :: fs, out, f, hf, hk => by
    rcases List.mem_cons.1 hf with rfl | hf
    · exact addFs_sub fs (addF_has hk)
    · exact addFs_has fs hf hk
theorem reach_sub (l : List Typ) : ∀ (s : List Int) {out : List Int} {x : Int}, x ∈ out → x ∈ s.foldl (fun out a => (at0 l a).fields.foldl addF out) out
  | [], out, x, h => h
  | a :: s, out, x, h => reach_sub l s (addFs_sub _ h)
theorem reach_mem (l : List Typ) : ∀ (s : List Int) {out : List Int} {x : Int}, x ∈ s.foldl (fun out a => (at0 l a).fields.foldl addF out) out → x ∈ out ∨ ∃ a ∈ s, Edge l a x
  | [], out, x, h => .inl h
  | a :: s, out, x, h => by
    rcases reach_mem l s h with h | ⟨b, h1, h2⟩
    · rcases addFs_mem _ h with h | h
      · exact .inl h
      · exact .inr ⟨a, by simp, h⟩
    · exact .inr ⟨b, by simp [h1], h2⟩
theorem reach_has (l : List Typ) : ∀ (s : List Int) {out : List Int} {a x : Int}, a ∈ s → Edge l a x → x ∈ s.foldl (fun out a => (at0 l a).fields.foldl addF out) out
  | b :: s, out, a, x, ha, ⟨f, hf, hk, hx⟩ => by
    rcases List.mem_cons.1 ha with rfl | ha
    · subst hx
      exact reach_sub l s (addFs_has _ hf hk)
    · exact reach_has l s ha ⟨f, hf, hk, hx⟩
theorem reachedS_mem {l : List Typ} {s : List Int} {x : Int} : x ∈ reachedS l s ↔ x ∈ s ∨ ∃ a ∈ s, Edge l a x :=
  ⟨reach_mem l s, fun h => h.elim (reach_sub l s) fun ⟨a, h1, h2⟩ => reach_has l s h1 h2⟩
theorem Few.reach {l : List Typ} (hok : ∀ t ∈ l, ∀ f ∈ t.fields, f.kind = 2 → 0 ≤ f.type ∧ f.type < (l.length : Int)) : ∀ (s : List Int) {out : List Int}, (∀ x ∈ s, 0 ≤ x ∧ x < (l.length : Int)) → Few l.length out → Few l.length (s.foldl (fun out a => (at0 l a).fields.foldl addF out) out)
  | [], out, _, h => h
  | a :: s, out, hr, h => Few.reach hok s (fun x hx => hr x (by simp [hx])) (h.adds (hok _ (at0_mem (hr a (by simp)).1 (hr a (by simp)).2)))
theorem Few.reached {l : List Typ} (hok : ∀ t ∈ l, ∀ f ∈ t.fields, f.kind = 2 → 0 ≤ f.type ∧ f.type < (l.length : Int)) {s : List Int} (h : Few l.length s) : Few l.length (reachedS l s) := Few.reach hok s h.rng h
theorem rounds_sub {l : List Typ} : ∀ (n : Nat) {s : List Int} {x : Int}, x ∈ s → x ∈ rounds l n s
  | 0, s, x, h => h
  | n + 1, s, x, h => rounds_sub n (reachedS_mem.2 (.inl h))
theorem Rch.snoc {l : List Typ} {a b c : Int} (h : Rch l a b) (he : Edge l b c) : Rch l a c := by
  induction h with
  | one h1 => exact .more h1 (.one he)
  | more h1 _ ih => exact .more h1 (ih he)
theorem rounds_rch {l : List Typ} {i : Int} : ∀ (n : Nat) {s : List Int}, (∀ x ∈ s, Rch l i x) → ∀ x ∈ rounds l n s, Rch l i x
  | 0, s, h, x, hx => h x hx
  | n + 1, s, h, x, hx => rounds_rch n (fun y hy => by
      rcases reachedS_mem.1 hy with hy | ⟨a, ha, he⟩
      · exact h y hy
      · exact (h a ha).snoc he) x hx
def Closed (l : List Typ) (s : List Int) : Prop := ∀ x ∈ s, ∀ y, Edge l x y → y ∈ s
theorem Closed.reached {l : List Typ} {s : List Int} (h : Closed l s) : Closed l (reachedS l s) := by
  have hm : ∀ x, x ∈ reachedS l s ↔ x ∈ s := fun x => ⟨fun hx => (reachedS_mem.1 hx).elim id fun ⟨a, ha, he⟩ => h a ha x he, fun hx => reachedS_mem.2 (.inl hx)⟩
  intro x hx y hy
  exact (hm y).2 (h x ((hm x).1 hx) y hy)
theorem Closed.rounds {l : List Typ} : ∀ (n : Nat) {s : List Int}, Closed l s → Closed l (rounds l n s)
  | 0, s, h => h
  | n + 1, s, h => Closed.rounds n h.reached
def miss (N : Nat) (s : List Int) : Nat := (List.range N).countP fun x : Nat => decide ((x : Int) ∉ s)
theorem countP_lt {p q : Nat → Bool} : ∀ {L : List Nat}, (∀ x ∈ L, q x = true → p x = true) → (∃ x ∈ L, p x = true ∧ q x = false) → L.countP q < L.countP p
  | [], _, ⟨x, h, _⟩ => by simp at h
  | a :: L, hm, ⟨x, hx, h1, h2⟩ => by
    have hle : L.countP q ≤ L.countP p := List.countP_mono_left (fun y hy => hm y (by simp [hy]))
    rw [List.countP_cons, List.countP_cons]
    rcases List.mem_cons.1 hx with rfl | hx
    · simp [h1, h2]; omega
    · have := countP_lt (L := L) (fun y hy => hm y (by simp [hy])) ⟨x, hx, h1, h2⟩
      by_cases hq : q a = true
      · simp [hq, hm a (by simp) hq]; omega
      · simp [hq]; split <;> omega
theorem miss_lt {N : Nat} {s s' : List Int} (hs : ∀ x ∈ s, x ∈ s') {x : Int} (h0 : 0 ≤ x) (h1 : x < (N : Int)) (hx : x ∉ s) (hx' : x ∈ s') : miss N s' < miss N s := by
  refine countP_lt (fun y _ hy => ?_) ⟨x.toNat, by simp; omega, ?_, ?_⟩
  · simp only [decide_eq_true_eq] at hy ⊢
    exact fun h => hy (hs _ h)
  · simp only [decide_eq_true_eq]; rw [Int.toNat_of_nonneg h0]; exact hx
  · simp only [decide_eq_false_iff_not, Classical.not_not]; rw [Int.toNat_of_nonneg h0]; exact hx'
theorem miss_le (N : Nat) (s : List Int) : miss N s ≤ N := by
  have := List.countP_le_length (p := fun x : Nat => decide ((x : Int) ∉ s)) (l := List.range N)
  simpa [miss] using this
theorem miss_zero {N : Nat} {s : List Int} (h : miss N s = 0) {x : Int} (h0 : 0 ≤ x) (h1 : x < (N : Int)) : x ∈ s := by
  have := List.countP_eq_zero.1 h x.toNat (by simp; omega)
  simp only [decide_eq_true_eq, Classical.not_not] at this
  rwa [Int.toNat_of_nonneg h0] at this
theorem edge_rng {l : List Typ} (hok : ∀ t ∈ l, ∀ f ∈ t.fields, f.kind = 2 → 0 ≤ f.type ∧ f.type < (l.length : Int)) {x y : Int} (h0 : 0 ≤ x) (h1 : x < (l.length : Int)) (he : Edge l x y) : 0 ≤ y ∧ y < (l.length : Int) := by
  obtain ⟨f, hf, hk, rfl⟩ := he
  exact hok _ (at0_mem h0 h1) f hf hk
theorem rounds_closed {l : List Typ} (hok : ∀ t ∈ l, ∀ f ∈ t.fields, f.kind = 2 → 0 ≤ f.type ∧ f.type < (l.length : Int)) : ∀ (n : Nat) {s : List Int}, (∀ x ∈ s, 0 ≤ x ∧ x < (l.length : Int)) → Closed l (rounds l n s) ∨ miss l.length (rounds l n s) + n ≤ miss l.length s
  | 0, s, _ => .inr (Nat.le_refl _)
  | n + 1, s, hr => by
    by_cases hc : Closed l s
    · exact .inl (hc.rounds (n + 1))
    · have hr2 : ∀ x ∈ reachedS l s, 0 ≤ x ∧ x < (l.length : Int) := by
        intro x hx
        rcases reachedS_mem.1 hx with hx | ⟨a, ha, he⟩
        · exact hr x hx
        · exact edge_rng hok (hr a ha).1 (hr a ha).2 he
      rcases rounds_closed hok n hr2 with h | h
      · exact .inl h
      · right
        have : ∃ x, x ∈ s ∧ ∃ y, Edge l x y ∧ y ∉ s := by
          refine Classical.byContradiction fun hn => hc fun x hx y hy => Classical.byContradiction fun hy' => hn ⟨x, hx, y, hy, hy'⟩
        obtain ⟨x, hx, y, hy, hny⟩ := this
        have hyr := edge_rng hok (hr x hx).1 (hr x hx).2 hy
        have := miss_lt (N := l.length) (s := s) (s' := reachedS l s) (fun z hz => reachedS_mem.2 (.inl hz)) hyr.1 hyr.2 hny (reachedS_mem.2 (.inr ⟨x, hx, hy⟩))
        show miss l.length (rounds l n (reachedS l s)) + (n + 1) ≤ _
        omega
theorem itself_iff {l : List Typ} (hok : ∀ t ∈ l, ∀ f ∈ t.fields, f.kind = 2 → 0 ≤ f.type ∧ f.type < (l.length : Int)) {i : Int} (h0 : 0 ≤ i) (h1 : i < (l.length : Int)) : i ∈ rounds l l.length (ptrs (at0 l i).fields) ↔ Rch l i i := by
  have hp : ∀ y, y ∈ ptrs (at0 l i).fields ↔ Edge l i y := fun y => ptrs_mem
  have hr : ∀ x ∈ ptrs (at0 l i).fields, 0 ≤ x ∧ x < (l.length : Int) := fun x hx => edge_rng hok h0 h1 ((hp x).1 hx)
  constructor
  · exact fun h => rounds_rch _ (fun x hx => .one ((hp x).1 hx)) i h
  · intro h
    rcases rounds_closed hok l.length hr with hc | hm
    · exact rch_closed h (fun y hy => rounds_sub _ ((hp y).2 hy)) hc
    · have := miss_le l.length (ptrs (at0 l i).fields)
      exact miss_zero (by omega) h0 h1
end Go.Proofs.Ytjembadjfiohpaa.Va

/- chapter 5: the document's test of types, walked; the law -/
namespace Go.Proofs.Ytjembadjfiohpaa.Va
open Go
set_option linter.unusedVariables false
set_option linter.unusedSimpArgs false
set_option maxRecDepth 100000
theorem ptrs_snoc {fs : List Fld} {k : Nat} (h : k < fs.length) : ptrs (fs.take (k + 1)) = ptrs (fs.take k) ++ (if fs[k].kind = 2 then [fs[k].type] else []) := by
  rw [List.take_succ_eq_append_getElem h]
  simp only [ptrs, List.filter_append, List.map_append]
  by_cases hk : fs[k].kind = 2 <;> simp [hk]
theorem ptrs_len (fs : List Fld) : (ptrs fs).length ≤ fs.length := by
  simp only [ptrs, List.length_map]; exact List.length_filter_le _ _
theorem rounds_few {l : List Typ} (hok : ∀ t ∈ l, ∀ f ∈ t.fields, f.kind = 2 → 0 ≤ f.type ∧ f.type < (l.length : Int)) : ∀ (n : Nat) {s : List Int}, Few l.length s → Few l.length (rounds l n s)
  | 0, s, h => h
  | n + 1, s, h => rounds_few hok n (h.reached hok)
theorem rounds_succ (l : List Typ) : ∀ (n : Nat) (s : List Int), rounds l (n + 1) s = reachedS l (rounds l n s)
  | 0, s => rfl
  | n + 1, s => rounds_succ l n (reachedS l s)
theorem Itself_c (d : Nat) (bl : Bool) (l : List Typ) (i : Nat) (hi : i < l.length) (hl : l.length ≤ 1000) (hfl : ∀ t ∈ l, t.fields.length ≤ 12) (hok : ∀ t ∈ l, ∀ f ∈ t.fields, f.kind = 2 → 0 ≤ f.type ∧ f.type < (l.length : Int)) :
    evalF Try.prog CC (d + 10) 25 [encTs bl l, .int .i64 i] St.empty = some (.bool (decide ((i : Int) ∈ rounds l l.length (ptrs (at0 l (i : Int)).fields))), St.empty) := by
  generalize hX : (some (AV.bool (decide ((i : Int) ∈ rounds l l.length (ptrs (at0 l (i : Int)).fields))), St.empty) : Option (AV × St)) = X
  have hmem := at0_mem (l := l) (i := (i : Int)) (by omega) (by omega)
  have hfl' := hfl _ hmem
  have hok' := hok _ hmem
  have hfew0 : ∀ s : List Int, s = ptrs (at0 l (i : Int)).fields → Few l.length s := fun s hs => ⟨s, [], by simp, by rw [hs]; exact Nat.le_trans (ptrs_len _) hfl', by simp, by simp, fun x hx => by
    rw [hs] at hx
    obtain ⟨f, h1, h2, rfl⟩ := ptrs_mem.1 hx
    exact hok' f h1 h2⟩
  generalize ht : at0 l (i : Int) = t at hfl' hok' hX hfew0
  obtain ⟨name, tv, tr, tb, fs⟩ := t
  simp only at hfl' hok' hX hfew0
  refine wp_eq ?_
  rw [run_25 _ _ _ (by simp)]; unfold Try.f25; simp only [Option.getD_some]
  simp only [encTs]
  simp only [go_sem, ↓reduceIte, Nat.reduceEqDiff, Nat.reduceAdd, reduceCtorEq, CCT, CCv, CCr, CCk, Nat.reduceBNe, Nat.reduceLeDiff, Nat.reduceLT, beqI, bneI, List.length_map, decide_true, decide_false, Int.reduceEq, Int.reduceLT, Int.reduceLE, Int.reduceGE, Int.reduceGT, not_true_eq_false, not_false_eq_true, Bool.and_true, Bool.true_and, Bool.and_false, Bool.false_and, and_true, true_and, and_self, Bool.not_not, *]
  refine W.idx_at (by omega) (by omega) ?_
  rw [ht]
  simp only [go_sem, ↓reduceIte, Nat.reduceEqDiff, Nat.reduceAdd, reduceCtorEq, CCT, CCv, CCr, CCk, Nat.reduceBNe, Nat.reduceLeDiff, Nat.reduceLT, beqI, bneI, List.length_map, decide_true, decide_false, Int.reduceEq, Int.reduceLT, Int.reduceLE, Int.reduceGE, Int.reduceGT, not_true_eq_false, not_false_eq_true, Bool.and_true, Bool.true_and, Bool.and_false, Bool.false_and, and_true, true_and, and_self, Bool.not_not, encTy]
  refine W.iter_rule (fun k ρ σ => ρ 0 = .list 32 bl (l.map encTy) none ∧ ρ 1 = .int .i64 i ∧ ρ 5 = .list 41 tb (fs.map encF) none ∧ ρ 7 = .int .i64 k ∧ ∃ kk, Gw 3 (intsA (ptrs (fs.take k))) σ (ρ 6) kk) fs.length ?_ ?_ _ 0 _ _ (Nat.zero_le _) ?_ ?_
  · rintro k ρ σ hk ⟨h0, h1, h5, h7, kk, hg⟩ K hK hx hr
    have hlt : (k : Int) < (fs.length : Int) := by omega
    have hwrap : IntKind.i64.wrap ((k : Int) + 1) = ((k + 1 : Nat) : Int) := by rw [IntKind.wrap_i64]; omega
    have hsn := ptrs_snoc hk
    have hat : at0 fs (k : Int) = fs[k] := at0_nat hk
    have hpl := ptrs_len (fs.take k)
    rw [List.length_take] at hpl
    have hil : (intsA (ptrs (fs.take k))).length = (ptrs (fs.take k)).length := by simp [intsA]
    simp only [go_sem, ↓reduceIte, Nat.reduceEqDiff, Nat.reduceAdd, reduceCtorEq, CCT, CCv, CCr, CCk, Nat.reduceBNe, Nat.reduceLeDiff, Nat.reduceLT, beqI, bneI, List.length_map, decide_true, decide_false, Int.reduceEq, Int.reduceLT, Int.reduceLE, Int.reduceGE, Int.reduceGT, not_true_eq_false, not_false_eq_true, Bool.and_true, Bool.true_and, Bool.and_false, Bool.false_and, and_true, true_and, and_self, Bool.not_not, h0, h1, h5, h7, hlt]
    refine W.idx_at (by omega) (by omega) ?_
    rw [hat]
    generalize fs[k] = f at hsn hat
    obtain ⟨fk, fn, ft, fli, fke⟩ := f
    simp only at hsn
    simp only [go_sem, ↓reduceIte, Nat.reduceEqDiff, Nat.reduceAdd, reduceCtorEq, CCT, CCv, CCr, CCk, Nat.reduceBNe, Nat.reduceLeDiff, Nat.reduceLT, beqI, bneI, List.length_map, decide_true, decide_false, Int.reduceEq, Int.reduceLT, Int.reduceLE, Int.reduceGE, Int.reduceGT, not_true_eq_false, not_false_eq_true, Bool.and_true, Bool.true_and, Bool.and_false, Bool.false_and, and_true, true_and, and_self, Bool.not_not, encF, h0, h1, h5, h7, hlt]
    refine W.br_dec (fun h => ?_) (fun h => ?_)
    · rw [if_pos h] at hsn
      simp only [go_sem, ↓reduceIte, Nat.reduceEqDiff, Nat.reduceAdd, reduceCtorEq, CCT, CCv, CCr, CCk, Nat.reduceBNe, Nat.reduceLeDiff, Nat.reduceLT, beqI, bneI, List.length_map, decide_true, decide_false, Int.reduceEq, Int.reduceLT, Int.reduceLE, Int.reduceGE, Int.reduceGT, not_true_eq_false, not_false_eq_true, Bool.and_true, Bool.true_and, Bool.and_false, Bool.false_and, and_true, true_and, and_self, Bool.not_not, encF, h0, h1, h5, h7, hlt]
      refine W.idx_at (by omega) (by omega) ?_
      rw [hat]
      simp only [go_sem, ↓reduceIte, Nat.reduceEqDiff, Nat.reduceAdd, reduceCtorEq, CCT, CCv, CCr, CCk, Nat.reduceBNe, Nat.reduceLeDiff, Nat.reduceLT, beqI, bneI, List.length_map, decide_true, decide_false, Int.reduceEq, Int.reduceLT, Int.reduceLE, Int.reduceGE, Int.reduceGT, not_true_eq_false, not_false_eq_true, Bool.and_true, Bool.true_and, Bool.and_false, Bool.false_and, and_true, true_and, and_self, Bool.not_not, encF, h0, h1, h5, h7, hlt]
      refine W.gw_app (T := T) (t := 33) hg (ys := [.int .i64 ft]) (by simp) rfl ?_ ?_ ?_
      · simp only [go_sem, ↓reduceIte, Nat.reduceEqDiff, Nat.reduceAdd, reduceCtorEq, CCT, CCv, CCr, CCk, Nat.reduceBNe, Nat.reduceLeDiff, Nat.reduceLT, beqI, bneI, List.length_map, decide_true, decide_false, Int.reduceEq, Int.reduceLT, Int.reduceLE, Int.reduceGE, Int.reduceGT, not_true_eq_false, not_false_eq_true, Bool.and_true, Bool.true_and, Bool.and_false, Bool.false_and, and_true, true_and, and_self, Bool.not_not, *]
      · exact roomy_of (by rw [hil]; show _ + 1 ≤ _; omega) (by decide)
      simp only [go_sem, ↓reduceIte, Nat.reduceEqDiff, Nat.reduceAdd, reduceCtorEq, CCT, CCv, CCr, CCk, Nat.reduceBNe, Nat.reduceLeDiff, Nat.reduceLT, beqI, bneI, List.length_map, decide_true, decide_false, Int.reduceEq, Int.reduceLT, Int.reduceLE, Int.reduceGE, Int.reduceGT, not_true_eq_false, not_false_eq_true, Bool.and_true, Bool.true_and, Bool.and_false, Bool.false_and, and_true, true_and, and_self, Bool.not_not, encF, h0, h1, h5, h7, hlt, hwrap]
      refine hK _ _ ?_
      refine ⟨by (try simp only [go_sem, ↓reduceIte, Nat.reduceEqDiff, Nat.reduceAdd, reduceCtorEq, CCT, CCv, CCr, CCk, Nat.reduceBNe, Nat.reduceLeDiff, Nat.reduceLT, beqI, bneI, List.length_map, decide_true, decide_false, Int.reduceEq, Int.reduceLT, Int.reduceLE, Int.reduceGE, Int.reduceGT, not_true_eq_false, not_false_eq_true, Bool.and_true, Bool.true_and, Bool.and_false, Bool.false_and, and_true, true_and, and_self, Bool.not_not, Int.toNat_natCast, List.length_take, *]) <;> (first | done | rfl | omega | (simp; done) | (simp; omega)), by (try simp only [go_sem, ↓reduceIte, Nat.reduceEqDiff, Nat.reduceAdd, reduceCtorEq, CCT, CCv, CCr, CCk, Nat.reduceBNe, Nat.reduceLeDiff, Nat.reduceLT, beqI, bneI, List.length_map, decide_true, decide_false, Int.reduceEq, Int.reduceLT, Int.reduceLE, Int.reduceGE, Int.reduceGT, not_true_eq_false, not_false_eq_true, Bool.and_true, Bool.true_and, Bool.and_false, Bool.false_and, and_true, true_and, and_self, Bool.not_not, Int.toNat_natCast, List.length_take, *]) <;> (first | done | rfl | omega | (simp; done) | (simp; omega)), by (try simp only [go_sem, ↓reduceIte, Nat.reduceEqDiff, Nat.reduceAdd, reduceCtorEq, CCT, CCv, CCr, CCk, Nat.reduceBNe, Nat.reduceLeDiff, Nat.reduceLT, beqI, bneI, List.length_map, decide_true, decide_false, Int.reduceEq, Int.reduceLT, Int.reduceLE, Int.reduceGE, Int.reduceGT, not_true_eq_false, not_false_eq_true, Bool.and_true, Bool.true_and, Bool.and_false, Bool.false_and, and_true, true_and, and_self, Bool.not_not, Int.toNat_natCast, List.length_take, *]) <;> (first | done | rfl | omega | (simp; done) | (simp; omega)), by (try simp only [go_sem, ↓reduceIte, Nat.reduceEqDiff, Nat.reduceAdd, reduceCtorEq, CCT, CCv, CCr, CCk, Nat.reduceBNe, Nat.reduceLeDiff, Nat.reduceLT, beqI, bneI, List.length_map, decide_true, decide_false, Int.reduceEq, Int.reduceLT, Int.reduceLE, Int.reduceGE, Int.reduceGT, not_true_eq_false, not_false_eq_true, Bool.and_true, Bool.true_and, Bool.and_false, Bool.false_and, and_true, true_and, and_self, Bool.not_not, Int.toNat_natCast, List.length_take, *]) <;> (first | done | rfl | omega | (simp; done) | (simp; omega)), some σ.ntok, ?_⟩
      simp only [go_sem, ↓reduceIte, Nat.reduceEqDiff, Nat.reduceAdd, reduceCtorEq, CCT, CCv, CCr, CCk, Nat.reduceBNe, Nat.reduceLeDiff, Nat.reduceLT, beqI, bneI, List.length_map, decide_true, decide_false, Int.reduceEq, Int.reduceLT, Int.reduceLE, Int.reduceGE, Int.reduceGT, not_true_eq_false, not_false_eq_true, Bool.and_true, Bool.true_and, Bool.and_false, Bool.false_and, and_true, true_and, and_self, Bool.not_not, h0]
      rw [hsn, show intsA (ptrs (fs.take k)) ++ [.int .i64 ft] = intsA (ptrs (fs.take k) ++ [ft]) by simp [intsA]]
      exact .new (by simp [intsA])
    · rw [if_neg h, List.append_nil] at hsn
      simp only [go_sem, ↓reduceIte, Nat.reduceEqDiff, Nat.reduceAdd, reduceCtorEq, CCT, CCv, CCr, CCk, Nat.reduceBNe, Nat.reduceLeDiff, Nat.reduceLT, beqI, bneI, List.length_map, decide_true, decide_false, Int.reduceEq, Int.reduceLT, Int.reduceLE, Int.reduceGE, Int.reduceGT, not_true_eq_false, not_false_eq_true, Bool.and_true, Bool.true_and, Bool.and_false, Bool.false_and, and_true, true_and, and_self, Bool.not_not, encF, h0, h1, h5, h7, hlt, hwrap]
      refine hK _ _ ?_
      refine ⟨by (try simp only [go_sem, ↓reduceIte, Nat.reduceEqDiff, Nat.reduceAdd, reduceCtorEq, CCT, CCv, CCr, CCk, Nat.reduceBNe, Nat.reduceLeDiff, Nat.reduceLT, beqI, bneI, List.length_map, decide_true, decide_false, Int.reduceEq, Int.reduceLT, Int.reduceLE, Int.reduceGE, Int.reduceGT, not_true_eq_false, not_false_eq_true, Bool.and_true, Bool.true_and, Bool.and_false, Bool.false_and, and_true, true_and, and_self, Bool.not_not, Int.toNat_natCast, List.length_take, *]) <;> (first | done | rfl | omega | (simp; done) | (simp; omega)), by (try simp only [go_sem, ↓reduceIte, Nat.reduceEqDiff, Nat.reduceAdd, reduceCtorEq, CCT, CCv, CCr, CCk, Nat.reduceBNe, Nat.reduceLeDiff, Nat.reduceLT, beqI, bneI, List.length_map, decide_true, decide_false, Int.reduceEq, Int.reduceLT, Int.reduceLE, Int.reduceGE, Int.reduceGT, not_true_eq_false, not_false_eq_true, Bool.and_true, Bool.true_and, Bool.and_false, Bool.false_and, and_true, true_and, and_self, Bool.not_not, Int.toNat_natCast, List.length_take, *]) <;> (first | done | rfl | omega | (simp; done) | (simp; omega)), by (try simp only [go_sem, ↓reduceIte, Nat.reduceEqDiff, Nat.reduceAdd, reduceCtorEq, CCT, CCv, CCr, CCk, Nat.reduceBNe, Nat.reduceLeDiff, Nat.reduceLT, beqI, bneI, List.length_map, decide_true, decide_false, Int.reduceEq, Int.reduceLT, Int.reduceLE, Int.reduceGE, Int.reduceGT, not_true_eq_false, not_false_eq_true, Bool.and_true, Bool.true_and, Bool.and_false, Bool.false_and, and_true, true_and, and_self, Bool.not_not, Int.toNat_natCast, List.length_take, *]) <;> (first | done | rfl | omega | (simp; done) | (simp; omega)), by (try simp only [go_sem, ↓reduceIte, Nat.reduceEqDiff, Nat.reduceAdd, reduceCtorEq, CCT, CCv, CCr, CCk, Nat.reduceBNe, Nat.reduceLeDiff, Nat.reduceLT, beqI, bneI, List.length_map, decide_true, decide_false, Int.reduceEq, Int.reduceLT, Int.reduceLE, Int.reduceGE, Int.reduceGT, not_true_eq_false, not_false_eq_true, Bool.and_true, Bool.true_and, Bool.and_false, Bool.false_and, and_true, true_and, and_self, Bool.not_not, Int.toNat_natCast, List.length_take, *]) <;> (first | done | rfl | omega | (simp; done) | (simp; omega)), kk, ?_⟩
      simp only [go_sem, ↓reduceIte, Nat.reduceEqDiff, Nat.reduceAdd, reduceCtorEq, CCT, CCv, CCr, CCk, Nat.reduceBNe, Nat.reduceLeDiff, Nat.reduceLT, beqI, bneI, List.length_map, decide_true, decide_false, Int.reduceEq, Int.reduceLT, Int.reduceLE, Int.reduceGE, Int.reduceGT, not_true_eq_false, not_false_eq_true, Bool.and_true, Bool.true_and, Bool.and_false, Bool.false_and, and_true, true_and, and_self, Bool.not_not, h0]
      rw [hsn]; exact hg
  · rintro ρ σ ⟨h0, h1, h5, h7, kk, hg⟩ K hx hr
    have hlt : ¬ (fs.length : Int) < (fs.length : Int) := by omega
    rw [List.take_length] at hg
    simp only [go_sem, ↓reduceIte, Nat.reduceEqDiff, Nat.reduceAdd, reduceCtorEq, CCT, CCv, CCr, CCk, Nat.reduceBNe, Nat.reduceLeDiff, Nat.reduceLT, beqI, bneI, List.length_map, decide_true, decide_false, Int.reduceEq, Int.reduceLT, Int.reduceLE, Int.reduceGE, Int.reduceGT, not_true_eq_false, not_false_eq_true, Bool.and_true, Bool.true_and, Bool.and_false, Bool.false_and, and_true, true_and, and_self, Bool.not_not, hx, h0, h1, h5, h7, hlt]
    clear hx hr
    refine W.iter_rule (fun n ρ σ => ρ 0 = .list 32 bl (l.map encTy) none ∧ ρ 1 = .int .i64 i ∧ ρ 8 = .int .i64 n ∧ Sl 3 (intsA (rounds l n (ptrs fs))) (ρ 6)) l.length ?_ ?_ _ 0 _ _ (Nat.zero_le _) ?_ ?_
    · rintro n ρ σ hn ⟨h0, h1, h8, hs⟩ K hK hx hr
      have hlt : (n : Int) < (l.length : Int) := by omega
      have hwrap : IntKind.i64.wrap ((n : Int) + 1) = ((n + 1 : Nat) : Int) := by rw [IntKind.wrap_i64]; omega
      have hfew := rounds_few hok n (hfew0 _ rfl)
      have hsu := rounds_succ l n (ptrs fs)
      by_cases hne : rounds l n (ptrs fs) = []
      · rw [hne] at hs hsu
        have hsu : rounds l (n + 1) (ptrs fs) = [] := by rw [hsu]; rfl
        rcases hs with ⟨_, h6⟩ | ⟨b, k, h6⟩
        · have hc := fun d => Reached_mt d bl l
          simp only [encTs] at hc
          simp only [go_sem, ↓reduceIte, Nat.reduceEqDiff, Nat.reduceAdd, reduceCtorEq, CCT, CCv, CCr, CCk, Nat.reduceBNe, Nat.reduceLeDiff, Nat.reduceLT, beqI, bneI, List.length_map, decide_true, decide_false, Int.reduceEq, Int.reduceLT, Int.reduceLE, Int.reduceGE, Int.reduceGT, not_true_eq_false, not_false_eq_true, Bool.and_true, Bool.true_and, Bool.and_false, Bool.false_and, and_true, true_and, and_self, Bool.not_not, hc, h0, h1, h8, h6, hlt, hwrap]
          refine hK _ _ ?_
          refine ⟨by (try simp only [go_sem, ↓reduceIte, Nat.reduceEqDiff, Nat.reduceAdd, reduceCtorEq, CCT, CCv, CCr, CCk, Nat.reduceBNe, Nat.reduceLeDiff, Nat.reduceLT, beqI, bneI, List.length_map, decide_true, decide_false, Int.reduceEq, Int.reduceLT, Int.reduceLE, Int.reduceGE, Int.reduceGT, not_true_eq_false, not_false_eq_true, Bool.and_true, Bool.true_and, Bool.and_false, Bool.false_and, and_true, true_and, and_self, Bool.not_not, Int.toNat_natCast, List.length_take, *]) <;> (first | done | rfl | omega | (simp; done) | (simp; omega)), by (try simp only [go_sem, ↓reduceIte, Nat.reduceEqDiff, Nat.reduceAdd, reduceCtorEq, CCT, CCv, CCr, CCk, Nat.reduceBNe, Nat.reduceLeDiff, Nat.reduceLT, beqI, bneI, List.length_map, decide_true, decide_false, Int.reduceEq, Int.reduceLT, Int.reduceLE, Int.reduceGE, Int.reduceGT, not_true_eq_false, not_false_eq_true, Bool.and_true, Bool.true_and, Bool.and_false, Bool.false_and, and_true, true_and, and_self, Bool.not_not, Int.toNat_natCast, List.length_take, *]) <;> (first | done | rfl | omega | (simp; done) | (simp; omega)), by (try simp only [go_sem, ↓reduceIte, Nat.reduceEqDiff, Nat.reduceAdd, reduceCtorEq, CCT, CCv, CCr, CCk, Nat.reduceBNe, Nat.reduceLeDiff, Nat.reduceLT, beqI, bneI, List.length_map, decide_true, decide_false, Int.reduceEq, Int.reduceLT, Int.reduceLE, Int.reduceGE, Int.reduceGT, not_true_eq_false, not_false_eq_true, Bool.and_true, Bool.true_and, Bool.and_false, Bool.false_and, and_true, true_and, and_self, Bool.not_not, Int.toNat_natCast, List.length_take, *]) <;> (first | done | rfl | omega | (simp; done) | (simp; omega)), ?_⟩
          simp only [go_sem, ↓reduceIte, Nat.reduceEqDiff, Nat.reduceAdd, reduceCtorEq, CCT, CCv, CCr, CCk, Nat.reduceBNe, Nat.reduceLeDiff, Nat.reduceLT, beqI, bneI, List.length_map, decide_true, decide_false, Int.reduceEq, Int.reduceLT, Int.reduceLE, Int.reduceGE, Int.reduceGT, not_true_eq_false, not_false_eq_true, Bool.and_true, Bool.true_and, Bool.and_false, Bool.false_and, and_true, true_and, and_self, Bool.not_not, hsu]
          exact .inr ⟨_, _, rfl⟩
        · have hc := fun d b k => Reached_e d bl b k l
          simp only [encTs] at hc
          simp only [intsA, List.map_nil] at h6
          simp only [go_sem, ↓reduceIte, Nat.reduceEqDiff, Nat.reduceAdd, reduceCtorEq, CCT, CCv, CCr, CCk, Nat.reduceBNe, Nat.reduceLeDiff, Nat.reduceLT, beqI, bneI, List.length_map, decide_true, decide_false, Int.reduceEq, Int.reduceLT, Int.reduceLE, Int.reduceGE, Int.reduceGT, not_true_eq_false, not_false_eq_true, Bool.and_true, Bool.true_and, Bool.and_false, Bool.false_and, and_true, true_and, and_self, Bool.not_not, hc, h0, h1, h8, h6, hlt, hwrap]
          refine hK _ _ ?_
          refine ⟨by (try simp only [go_sem, ↓reduceIte, Nat.reduceEqDiff, Nat.reduceAdd, reduceCtorEq, CCT, CCv, CCr, CCk, Nat.reduceBNe, Nat.reduceLeDiff, Nat.reduceLT, beqI, bneI, List.length_map, decide_true, decide_false, Int.reduceEq, Int.reduceLT, Int.reduceLE, Int.reduceGE, Int.reduceGT, not_true_eq_false, not_false_eq_true, Bool.and_true, Bool.true_and, Bool.and_false, Bool.false_and, and_true, true_and, and_self, Bool.not_not, Int.toNat_natCast, List.length_take, *]) <;> (first | done | rfl | omega | (simp; done) | (simp; omega)), by (try simp only [go_sem, ↓reduceIte, Nat.reduceEqDiff, Nat.reduceAdd, reduceCtorEq, CCT, CCv, CCr, CCk, Nat.reduceBNe, Nat.reduceLeDiff, Nat.reduceLT, beqI, bneI, List.length_map, decide_true, decide_false, Int.reduceEq, Int.reduceLT, Int.reduceLE, Int.reduceGE, Int.reduceGT, not_true_eq_false, not_false_eq_true, Bool.and_true, Bool.true_and, Bool.and_false, Bool.false_and, and_true, true_and, and_self, Bool.not_not, Int.toNat_natCast, List.length_take, *]) <;> (first | done | rfl | omega | (simp; done) | (simp; omega)), by (try simp only [go_sem, ↓reduceIte, Nat.reduceEqDiff, Nat.reduceAdd, reduceCtorEq, CCT, CCv, CCr, CCk, Nat.reduceBNe, Nat.reduceLeDiff, Nat.reduceLT, beqI, bneI, List.length_map, decide_true, decide_false, Int.reduceEq, Int.reduceLT, Int.reduceLE, Int.reduceGE, Int.reduceGT, not_true_eq_false, not_false_eq_true, Bool.and_true, Bool.true_and, Bool.and_false, Bool.false_and, and_true, true_and, and_self, Bool.not_not, Int.toNat_natCast, List.length_take, *]) <;> (first | done | rfl | omega | (simp; done) | (simp; omega)), ?_⟩
          simp only [go_sem, ↓reduceIte, Nat.reduceEqDiff, Nat.reduceAdd, reduceCtorEq, CCT, CCv, CCr, CCk, Nat.reduceBNe, Nat.reduceLeDiff, Nat.reduceLT, beqI, bneI, List.length_map, decide_true, decide_false, Int.reduceEq, Int.reduceLT, Int.reduceLE, Int.reduceGE, Int.reduceGT, not_true_eq_false, not_false_eq_true, Bool.and_true, Bool.true_and, Bool.and_false, Bool.false_and, and_true, true_and, and_self, Bool.not_not, hsu]
          exact .inr ⟨_, _, rfl⟩
      · have hc := fun d b k => Reached_c d bl l hl hfl hok _ hfew hne b k
        simp only [encTs] at hc
        rcases hs with ⟨h6, _⟩ | ⟨b, k, h6⟩
        · simp [intsA, hne] at h6
        · simp only [go_sem, ↓reduceIte, Nat.reduceEqDiff, Nat.reduceAdd, reduceCtorEq, CCT, CCv, CCr, CCk, Nat.reduceBNe, Nat.reduceLeDiff, Nat.reduceLT, beqI, bneI, List.length_map, decide_true, decide_false, Int.reduceEq, Int.reduceLT, Int.reduceLE, Int.reduceGE, Int.reduceGT, not_true_eq_false, not_false_eq_true, Bool.and_true, Bool.true_and, Bool.and_false, Bool.false_and, and_true, true_and, and_self, Bool.not_not, hc, h0, h1, h8, h6, hlt, hwrap]
          refine hK _ _ ?_
          refine ⟨by (try simp only [go_sem, ↓reduceIte, Nat.reduceEqDiff, Nat.reduceAdd, reduceCtorEq, CCT, CCv, CCr, CCk, Nat.reduceBNe, Nat.reduceLeDiff, Nat.reduceLT, beqI, bneI, List.length_map, decide_true, decide_false, Int.reduceEq, Int.reduceLT, Int.reduceLE, Int.reduceGE, Int.reduceGT, not_true_eq_false, not_false_eq_true, Bool.and_true, Bool.true_and, Bool.and_false, Bool.false_and, and_true, true_and, and_self, Bool.not_not, Int.toNat_natCast, List.length_take, *]) <;> (first | done | rfl | omega | (simp; done) | (simp; omega)), by (try simp only [go_sem, ↓reduceIte, Nat.reduceEqDiff, Nat.reduceAdd, reduceCtorEq, CCT, CCv, CCr, CCk, Nat.reduceBNe, Nat.reduceLeDiff, Nat.reduceLT, beqI, bneI, List.length_map, decide_true, decide_false, Int.reduceEq, Int.reduceLT, Int.reduceLE, Int.reduceGE, Int.reduceGT, not_true_eq_false, not_false_eq_true, Bool.and_true, Bool.true_and, Bool.and_false, Bool.false_and, and_true, true_and, and_self, Bool.not_not, Int.toNat_natCast, List.length_take, *]) <;> (first | done | rfl | omega | (simp; done) | (simp; omega)), by (try simp only [go_sem, ↓reduceIte, Nat.reduceEqDiff, Nat.reduceAdd, reduceCtorEq, CCT, CCv, CCr, CCk, Nat.reduceBNe, Nat.reduceLeDiff, Nat.reduceLT, beqI, bneI, List.length_map, decide_true, decide_false, Int.reduceEq, Int.reduceLT, Int.reduceLE, Int.reduceGE, Int.reduceGT, not_true_eq_false, not_false_eq_true, Bool.and_true, Bool.true_and, Bool.and_false, Bool.false_and, and_true, true_and, and_self, Bool.not_not, Int.toNat_natCast, List.length_take, *]) <;> (first | done | rfl | omega | (simp; done) | (simp; omega)), ?_⟩
          simp only [go_sem, ↓reduceIte, Nat.reduceEqDiff, Nat.reduceAdd, reduceCtorEq, CCT, CCv, CCr, CCk, Nat.reduceBNe, Nat.reduceLeDiff, Nat.reduceLT, beqI, bneI, List.length_map, decide_true, decide_false, Int.reduceEq, Int.reduceLT, Int.reduceLE, Int.reduceGE, Int.reduceGT, not_true_eq_false, not_false_eq_true, Bool.and_true, Bool.true_and, Bool.and_false, Bool.false_and, and_true, true_and, and_self, Bool.not_not, hsu]
          exact .inr ⟨_, _, rfl⟩
    · rintro ρ σ ⟨h0, h1, h8, hs⟩ K hx hr
      have hlt : ¬ (l.length : Int) < (l.length : Int) := by omega
      have hfew := (rounds_few hok l.length (hfew0 _ rfl)).len
      simp only [go_sem, ↓reduceIte, Nat.reduceEqDiff, Nat.reduceAdd, reduceCtorEq, CCT, CCv, CCr, CCk, Nat.reduceBNe, Nat.reduceLeDiff, Nat.reduceLT, beqI, bneI, List.length_map, decide_true, decide_false, Int.reduceEq, Int.reduceLT, Int.reduceLE, Int.reduceGE, Int.reduceGT, not_true_eq_false, not_false_eq_true, Bool.and_true, Bool.true_and, Bool.and_false, Bool.false_and, and_true, true_and, and_self, Bool.not_not, hx, h0, h1, h8, hlt]
      clear hx hr
      generalize rounds l l.length (ptrs fs) = s at hX hs hfew
      refine W.iter_rule (fun n ρ σ => ρ 1 = .int .i64 i ∧ ρ 9 = .int .i64 n ∧ Sl 3 (intsA s) (ρ 6) ∧ (i : Int) ∉ s.take n) s.length ?_ ?_ _ 0 _ _ (Nat.zero_le _) ?_ ?_
      · rintro n ρ σ hn ⟨h1, h9, hs, hnot⟩ K hK hx hr
        have hlt : (n : Int) < (s.length : Int) := by omega
        have hwrap : IntKind.i64.wrap ((n : Int) + 1) = ((n + 1 : Nat) : Int) := by rw [IntKind.wrap_i64]; omega
        have hil : (intsA s).length = s.length := by simp [intsA]
        have hidx : idxOk (n : Int) s.length = true := by simp [idxOk]; omega
        have hget : (intsA s)[(n : Int).toNat]? = some (.int .i64 s[n]) := by simp [intsA, hn]
        rcases hs with ⟨h6, _⟩ | ⟨b, k, h6⟩
        · rw [h6] at hil; simp at hil; omega
        · simp only [go_sem, ↓reduceIte, Nat.reduceEqDiff, Nat.reduceAdd, reduceCtorEq, CCT, CCv, CCr, CCk, Nat.reduceBNe, Nat.reduceLeDiff, Nat.reduceLT, beqI, bneI, List.length_map, decide_true, decide_false, Int.reduceEq, Int.reduceLT, Int.reduceLE, Int.reduceGE, Int.reduceGT, not_true_eq_false, not_false_eq_true, Bool.and_true, Bool.true_and, Bool.and_false, Bool.false_and, and_true, true_and, and_self, Bool.not_not, h1, h9, h6, hil, hlt, hidx, hget]
          refine W.br_dec (fun h => ?_) (fun h => ?_)
          · simp only [go_sem, ↓reduceIte, Nat.reduceEqDiff, Nat.reduceAdd, reduceCtorEq, CCT, CCv, CCr, CCk, Nat.reduceBNe, Nat.reduceLeDiff, Nat.reduceLT, beqI, bneI, List.length_map, decide_true, decide_false, Int.reduceEq, Int.reduceLT, Int.reduceLE, Int.reduceGE, Int.reduceGT, not_true_eq_false, not_false_eq_true, Bool.and_true, Bool.true_and, Bool.and_false, Bool.false_and, and_true, true_and, and_self, Bool.not_not, hr, h1, h9, h6]
            rw [← hX, decide_eq_true (by rw [← h]; exact List.getElem_mem hn)]
            rfl
          · simp only [go_sem, ↓reduceIte, Nat.reduceEqDiff, Nat.reduceAdd, reduceCtorEq, CCT, CCv, CCr, CCk, Nat.reduceBNe, Nat.reduceLeDiff, Nat.reduceLT, beqI, bneI, List.length_map, decide_true, decide_false, Int.reduceEq, Int.reduceLT, Int.reduceLE, Int.reduceGE, Int.reduceGT, not_true_eq_false, not_false_eq_true, Bool.and_true, Bool.true_and, Bool.and_false, Bool.false_and, and_true, true_and, and_self, Bool.not_not, h1, h9, h6, hwrap]
            refine hK _ _ ?_
            refine ⟨by (try simp only [go_sem, ↓reduceIte, Nat.reduceEqDiff, Nat.reduceAdd, reduceCtorEq, CCT, CCv, CCr, CCk, Nat.reduceBNe, Nat.reduceLeDiff, Nat.reduceLT, beqI, bneI, List.length_map, decide_true, decide_false, Int.reduceEq, Int.reduceLT, Int.reduceLE, Int.reduceGE, Int.reduceGT, not_true_eq_false, not_false_eq_true, Bool.and_true, Bool.true_and, Bool.and_false, Bool.false_and, and_true, true_and, and_self, Bool.not_not, Int.toNat_natCast, List.length_take, *]) <;> (first | done | rfl | omega | (simp; done) | (simp; omega)), by (try simp only [go_sem, ↓reduceIte, Nat.reduceEqDiff, Nat.reduceAdd, reduceCtorEq, CCT, CCv, CCr, CCk, Nat.reduceBNe, Nat.reduceLeDiff, Nat.reduceLT, beqI, bneI, List.length_map, decide_true, decide_false, Int.reduceEq, Int.reduceLT, Int.reduceLE, Int.reduceGE, Int.reduceGT, not_true_eq_false, not_false_eq_true, Bool.and_true, Bool.true_and, Bool.and_false, Bool.false_and, and_true, true_and, and_self, Bool.not_not, Int.toNat_natCast, List.length_take, *]) <;> (first | done | rfl | omega | (simp; done) | (simp; omega)), ?_, ?_⟩
            · simp only [go_sem, ↓reduceIte, Nat.reduceEqDiff, Nat.reduceAdd, reduceCtorEq, CCT, CCv, CCr, CCk, Nat.reduceBNe, Nat.reduceLeDiff, Nat.reduceLT, beqI, bneI, List.length_map, decide_true, decide_false, Int.reduceEq, Int.reduceLT, Int.reduceLE, Int.reduceGE, Int.reduceGT, not_true_eq_false, not_false_eq_true, Bool.and_true, Bool.true_and, Bool.and_false, Bool.false_and, and_true, true_and, and_self, Bool.not_not, h6]
              exact .inr ⟨_, _, rfl⟩
            · rw [List.take_succ_eq_append_getElem hn]
              simp only [List.mem_append, List.mem_singleton]
              rintro (h2 | h2)
              · exact hnot h2
              · exact h h2.symm
      · rintro ρ σ ⟨h1, h9, hs, hnot⟩ K hx hr
        have hlt : ¬ (s.length : Int) < (s.length : Int) := by omega
        have hil : (intsA s).length = s.length := by simp [intsA]
        rw [List.take_length] at hnot
        have h00 : ((0 : Nat) : Int) = 0 := rfl
        rcases hs with ⟨h6, h6'⟩ | ⟨b, k, h6⟩
        · rw [h6] at hil
          have hs0 : s.length = 0 := by simpa using hil.symm
          rw [hs0] at h9
          simp only [go_sem, ↓reduceIte, Nat.reduceEqDiff, Nat.reduceAdd, reduceCtorEq, CCT, CCv, CCr, CCk, Nat.reduceBNe, Nat.reduceLeDiff, Nat.reduceLT, beqI, bneI, List.length_map, decide_true, decide_false, Int.reduceEq, Int.reduceLT, Int.reduceLE, Int.reduceGE, Int.reduceGT, not_true_eq_false, not_false_eq_true, Bool.and_true, Bool.true_and, Bool.and_false, Bool.false_and, and_true, true_and, and_self, Bool.not_not, hx, h1, h9, h6', h00]
          rw [← hX, decide_eq_false hnot]; rfl
        · simp only [go_sem, ↓reduceIte, Nat.reduceEqDiff, Nat.reduceAdd, reduceCtorEq, CCT, CCv, CCr, CCk, Nat.reduceBNe, Nat.reduceLeDiff, Nat.reduceLT, beqI, bneI, List.length_map, decide_true, decide_false, Int.reduceEq, Int.reduceLT, Int.reduceLE, Int.reduceGE, Int.reduceGT, not_true_eq_false, not_false_eq_true, Bool.and_true, Bool.true_and, Bool.and_false, Bool.false_and, and_true, true_and, and_self, Bool.not_not, hx, h1, h9, h6, hil, hlt]
          rw [← hX, decide_eq_false hnot]; rfl
      · show s.length < 0 + 9223372036854775900
        omega
      · exact ⟨by (try simp only [go_sem, ↓reduceIte, Nat.reduceEqDiff, Nat.reduceAdd, reduceCtorEq, CCT, CCv, CCr, CCk, Nat.reduceBNe, Nat.reduceLeDiff, Nat.reduceLT, beqI, bneI, List.length_map, decide_true, decide_false, Int.reduceEq, Int.reduceLT, Int.reduceLE, Int.reduceGE, Int.reduceGT, not_true_eq_false, not_false_eq_true, Bool.and_true, Bool.true_and, Bool.and_false, Bool.false_and, and_true, true_and, and_self, Bool.not_not, Int.toNat_natCast, List.length_take, *]) <;> (first | done | rfl | omega | (simp; done) | (simp; omega)), by (try simp only [go_sem, ↓reduceIte, Nat.reduceEqDiff, Nat.reduceAdd, reduceCtorEq, CCT, CCv, CCr, CCk, Nat.reduceBNe, Nat.reduceLeDiff, Nat.reduceLT, beqI, bneI, List.length_map, decide_true, decide_false, Int.reduceEq, Int.reduceLT, Int.reduceLE, Int.reduceGE, Int.reduceGT, not_true_eq_false, not_false_eq_true, Bool.and_true, Bool.true_and, Bool.and_false, Bool.false_and, and_true, true_and, and_self, Bool.not_not, Int.toNat_natCast, List.length_take, *]) <;> (first | done | rfl | omega | (simp; done) | (simp; omega)), by simp only [go_sem, ↓reduceIte, Nat.reduceEqDiff, Nat.reduceAdd, reduceCtorEq, CCT, CCv, CCr, CCk, Nat.reduceBNe, Nat.reduceLeDiff, Nat.reduceLT, beqI, bneI, List.length_map, decide_true, decide_false, Int.reduceEq, Int.reduceLT, Int.reduceLE, Int.reduceGE, Int.reduceGT, not_true_eq_false, not_false_eq_true, Bool.and_true, Bool.true_and, Bool.and_false, Bool.false_and, and_true, true_and, and_self, Bool.not_not, h1]; exact hs, by simp⟩
    · show l.length < 0 + 9223372036854775900
      omega
    · exact ⟨by (try simp only [go_sem, ↓reduceIte, Nat.reduceEqDiff, Nat.reduceAdd, reduceCtorEq, CCT, CCv, CCr, CCk, Nat.reduceBNe, Nat.reduceLeDiff, Nat.reduceLT, beqI, bneI, List.length_map, decide_true, decide_false, Int.reduceEq, Int.reduceLT, Int.reduceLE, Int.reduceGE, Int.reduceGT, not_true_eq_false, not_false_eq_true, Bool.and_true, Bool.true_and, Bool.and_false, Bool.false_and, and_true, true_and, and_self, Bool.not_not, Int.toNat_natCast, List.length_take, *]) <;> (first | done | rfl | omega | (simp; done) | (simp; omega)), by (try simp only [go_sem, ↓reduceIte, Nat.reduceEqDiff, Nat.reduceAdd, reduceCtorEq, CCT, CCv, CCr, CCk, Nat.reduceBNe, Nat.reduceLeDiff, Nat.reduceLT, beqI, bneI, List.length_map, decide_true, decide_false, Int.reduceEq, Int.reduceLT, Int.reduceLE, Int.reduceGE, Int.reduceGT, not_true_eq_false, not_false_eq_true, Bool.and_true, Bool.true_and, Bool.and_false, Bool.false_and, and_true, true_and, and_self, Bool.not_not, Int.toNat_natCast, List.length_take, *]) <;> (first | done | rfl | omega | (simp; done) | (simp; omega)), by (try simp only [go_sem, ↓reduceIte, Nat.reduceEqDiff, Nat.reduceAdd, reduceCtorEq, CCT, CCv, CCr, CCk, Nat.reduceBNe, Nat.reduceLeDiff, Nat.reduceLT, beqI, bneI, List.length_map, decide_true, decide_false, Int.reduceEq, Int.reduceLT, Int.reduceLE, Int.reduceGE, Int.reduceGT, not_true_eq_false, not_false_eq_true, Bool.and_true, Bool.true_and, Bool.and_false, Bool.false_and, and_true, true_and, and_self, Bool.not_not, Int.toNat_natCast, List.length_take, *]) <;> (first | done | rfl | omega | (simp; done) | (simp; omega)), by simp only [go_sem, ↓reduceIte, Nat.reduceEqDiff, Nat.reduceAdd, reduceCtorEq, CCT, CCv, CCr, CCk, Nat.reduceBNe, Nat.reduceLeDiff, Nat.reduceLT, beqI, bneI, List.length_map, decide_true, decide_false, Int.reduceEq, Int.reduceLT, Int.reduceLE, Int.reduceGE, Int.reduceGT, not_true_eq_false, not_false_eq_true, Bool.and_true, Bool.true_and, Bool.and_false, Bool.false_and, and_true, true_and, and_self, Bool.not_not, h1]; exact hg.sl⟩
  · show fs.length < 0 + 9223372036854775900
    omega
  · exact ⟨by (try simp only [go_sem, ↓reduceIte, Nat.reduceEqDiff, Nat.reduceAdd, reduceCtorEq, CCT, CCv, CCr, CCk, Nat.reduceBNe, Nat.reduceLeDiff, Nat.reduceLT, beqI, bneI, List.length_map, decide_true, decide_false, Int.reduceEq, Int.reduceLT, Int.reduceLE, Int.reduceGE, Int.reduceGT, not_true_eq_false, not_false_eq_true, Bool.and_true, Bool.true_and, Bool.and_false, Bool.false_and, and_true, true_and, and_self, Bool.not_not, Int.toNat_natCast, List.length_take, *]) <;> (first | done | rfl | omega | (simp; done) | (simp; omega)), by (try simp only [go_sem, ↓reduceIte, Nat.reduceEqDiff, Nat.reduceAdd, reduceCtorEq, CCT, CCv, CCr, CCk, Nat.reduceBNe, Nat.reduceLeDiff, Nat.reduceLT, beqI, bneI, List.length_map, decide_true, decide_false, Int.reduceEq, Int.reduceLT, Int.reduceLE, Int.reduceGE, Int.reduceGT, not_true_eq_false, not_false_eq_true, Bool.and_true, Bool.true_and, Bool.and_false, Bool.false_and, and_true, true_and, and_self, Bool.not_not, Int.toNat_natCast, List.length_take, *]) <;> (first | done | rfl | omega | (simp; done) | (simp; omega)), by (try simp only [go_sem, ↓reduceIte, Nat.reduceEqDiff, Nat.reduceAdd, reduceCtorEq, CCT, CCv, CCr, CCk, Nat.reduceBNe, Nat.reduceLeDiff, Nat.reduceLT, beqI, bneI, List.length_map, decide_true, decide_false, Int.reduceEq, Int.reduceLT, Int.reduceLE, Int.reduceGE, Int.reduceGT, not_true_eq_false, not_false_eq_true, Bool.and_true, Bool.true_and, Bool.and_false, Bool.false_and, and_true, true_and, and_self, Bool.not_not, Int.toNat_natCast, List.length_take, *]) <;> (first | done | rfl | omega | (simp; done) | (simp; omega)), by (try simp only [go_sem, ↓reduceIte, Nat.reduceEqDiff, Nat.reduceAdd, reduceCtorEq, CCT, CCv, CCr, CCk, Nat.reduceBNe, Nat.reduceLeDiff, Nat.reduceLT, beqI, bneI, List.length_map, decide_true, decide_false, Int.reduceEq, Int.reduceLT, Int.reduceLE, Int.reduceGE, Int.reduceGT, not_true_eq_false, not_false_eq_true, Bool.and_true, Bool.true_and, Bool.and_false, Bool.false_and, and_true, true_and, and_self, Bool.not_not, Int.toNat_natCast, List.length_take, *]) <;> (first | done | rfl | omega | (simp; done) | (simp; omega)), none, by simp only [go_sem, ↓reduceIte, Nat.reduceEqDiff, Nat.reduceAdd, reduceCtorEq, CCT, CCv, CCr, CCk, Nat.reduceBNe, Nat.reduceLeDiff, Nat.reduceLT, beqI, bneI, List.length_map, decide_true, decide_false, Int.reduceEq, Int.reduceLT, Int.reduceLE, Int.reduceGE, Int.reduceGT, not_true_eq_false, not_false_eq_true, Bool.and_true, Bool.true_and, Bool.and_false, Bool.false_and, and_true, true_and, and_self, Bool.not_not, *]; exact .nil 3 _⟩
end Go.Proofs.Ytjembadjfiohpaa.Va

/- chapter 5: TypesLayouts -/
namespace Go.Proofs.Ytjembadjfiohpaa.Va
open Go
set_option linter.unusedVariables false
set_option linter.unusedSimpArgs false
set_option maxRecDepth 100000
set_option maxHeartbeats 1000000 in
theorem law4 (d : Nat) (name : ByteArray) (v r b : Bool) (fs : List Fld) : evalF Try.prog CC (d + 50) 4 [encT name v r b fs] St.empty = some (.bool true, St.empty) := by
  have hs : evalF Try.prog CC (d + 49) 11 [] St.empty = _ := shown_c (d + 9)
  have hl : evalF Try.prog CC (d + 49) 14 [encT name v r b fs] St.empty = _ := Layout_c (d + 44) name v r b fs
  have hm : evalF Try.prog CC (d + 49) 15 [encT name v r b fs] St.empty = _ := RefLayout_c (d + 44) name v r b fs
  rw [run_4 _ _ _ (by simp)]
  unfold Try.f4
  simp only [Option.getD_some]
  have hx := layR_cases fs
  generalize layR fs = x at hl hm hx
  rcases hx with ⟨n, e, rfl⟩ | ⟨xs, a, hlen, rfl⟩
  · have hsm := Same_mt (d + 44)
    simp only [go_sem, ↓reduceIte, Nat.reduceEqDiff, Nat.reduceAdd, reduceCtorEq, CCT, CCv, CCr, CCk, Nat.reduceBNe, Nat.reduceLeDiff, hs, hl, hm, hsm]
  · have hsm : evalF Try.prog CC (d + 49) 16 [.list 3 false (intsA xs) none, .list 3 false (intsA xs) none] St.empty = _ := Same_c (d + 44) false false none none xs xs hlen
    simp only [go_sem, ↓reduceIte, Nat.reduceEqDiff, Nat.reduceAdd, reduceCtorEq, CCT, CCv, CCr, CCk, Nat.reduceBNe, Nat.reduceLeDiff, hs, hl, hm, hsm]
end Go.Proofs.Ytjembadjfiohpaa.Va

/- chapter 5: TypesLayouts, of whatever reads as a type -/
namespace Go.Proofs.Ytjembadjfiohpaa.Va
open Go
set_option linter.unusedVariables false
set_option linter.unusedSimpArgs false
theorem arg_str {t : TypeId} {v : AV} (h : Arg T t v) (ht : T.ty t = some .str) : ∃ s, v = .str s := by
  cases h <;> simp_all
theorem arg_bool {t : TypeId} {v : AV} (h : Arg T t v) (ht : T.ty t = some .bool) : ∃ s, v = .bool s := by
  cases h <;> simp_all
theorem arg_int {t : TypeId} {v : AV} {k : IntKind} (h : Arg T t v) (ht : T.ty t = some (.int k)) : ∃ n, v = .int k n ∧ (Lit.int k n).wf = true := by
  cases h <;> simp_all
theorem arg_slice {t e : TypeId} {v : AV} (h : Arg T t v) (ht : T.ty t = some (.slice e)) : ∃ b xs, v = .list e b xs none ∧ (∀ x ∈ xs, Arg T e x) ∧ (b = true → xs = []) ∧ xs.length ≤ maxLen := by
  cases h with
  | slice _ e' b xs h hx hb hl =>
    rw [ht] at h
    cases h
    exact ⟨b, xs, rfl, hx, hb, hl⟩
  | bool _ _ h => rw [ht] at h; cases h
  | int _ _ _ h => rw [ht] at h; cases h
  | str _ _ h => rw [ht] at h; cases h
  | struct _ _ _ h => rw [ht] at h; cases h
theorem arg_struct {t : TypeId} {fs : List TypeId} {v : AV} (h : Arg T t v) (ht : T.ty t = some (.struct fs)) : ∃ vs, v = .agg t vs ∧ vs.length = fs.length ∧ ∀ (i : Nat) ft v, fs[i]? = some ft → vs[i]? = some v → Arg T ft v := by
  cases h with
  | struct _ fs' vs h hl hv =>
    rw [ht] at h
    cases h
    exact ⟨vs, rfl, hl, hv⟩
  | bool _ _ h => rw [ht] at h; cases h
  | int _ _ _ h => rw [ht] at h; cases h
  | str _ _ h => rw [ht] at h; cases h
  | slice _ _ _ _ h => rw [ht] at h; cases h
theorem arg_fld {v : AV} (h : Arg T 41 v) : ∃ f, v = encF f := by
  obtain ⟨vs, rfl, hl, hv⟩ := arg_struct h ty_41
  match vs, hl with
  | [a, b, c, d, e], _ =>
    obtain ⟨k, rfl, _⟩ := arg_int (hv 0 _ _ rfl rfl) ty_3
    obtain ⟨l, rfl, _⟩ := arg_int (hv 1 _ _ rfl rfl) ty_3
    obtain ⟨t, rfl, _⟩ := arg_int (hv 2 _ _ rfl rfl) ty_3
    obtain ⟨m, rfl, _⟩ := arg_int (hv 3 _ _ rfl rfl) ty_3
    obtain ⟨n, rfl, _⟩ := arg_int (hv 4 _ _ rfl rfl) ty_3
    exact ⟨⟨k, l, t, m, n⟩, rfl⟩
theorem map_of {p : AV → Prop} {α : Type} {g : α → AV} : ∀ {xs : List AV}, (∀ x ∈ xs, ∃ a, x = g a) → ∃ l : List α, xs = l.map g
  | [], _ => ⟨[], rfl⟩
  | x :: xs, h => by
    obtain ⟨a, rfl⟩ := h x (by simp)
    obtain ⟨l, rfl⟩ := map_of (p := p) (g := g) (xs := xs) (fun y hy => h y (by simp [hy]))
    exact ⟨a :: l, rfl⟩
theorem arg_typ {v : AV} (h : Arg T 32 v) : ∃ name u r b fs, v = encT name u r b fs ∧ fs.length ≤ maxLen ∧ (b = true → fs = []) := by
  obtain ⟨vs, rfl, hl, hv⟩ := arg_struct h ty_32
  match vs, hl with
  | [a, b, c, d], _ =>
    obtain ⟨s, rfl⟩ := arg_str (hv 0 _ _ rfl rfl) ty_9
    obtain ⟨x, rfl⟩ := arg_bool (hv 1 _ _ rfl rfl) ty_4
    obtain ⟨y, rfl⟩ := arg_bool (hv 2 _ _ rfl rfl) ty_4
    obtain ⟨z, xs, rfl, hx, hz, hlen⟩ := arg_slice (hv 3 _ _ rfl rfl) ty_30
    obtain ⟨fs, rfl⟩ := map_of (p := fun _ => True) (g := encF) (fun x hx' => arg_fld (hx x hx'))
    exact ⟨s, x, y, z, fs, rfl, by simpa using hlen, fun h => by simpa using hz h⟩
theorem layouts_law (d : Nat) (a : AV) (h : Arg T 32 a) : ∃ σ', evalF Try.prog CC (d + 50) 4 [a] St.empty = some (.bool true, σ') := by
  obtain ⟨name, u, r, b, fs, rfl, _, _⟩ := arg_typ h
  exact ⟨_, law4 d name u r b fs⟩
end Go.Proofs.Ytjembadjfiohpaa.Va

/- chapter 5: the document's test of types; TypesChecks -/
namespace Go.Proofs.Ytjembadjfiohpaa.Va
open Go
set_option linter.unusedVariables false
set_option linter.unusedSimpArgs false
set_option maxRecDepth 100000
theorem refCheck_c (d : Nat) (bl : Bool) (l : List Typ) (hl : l.length ≤ 9223372036854775807) (hnm : ∀ t ∈ l, t.name.size ≤ 9223372036854775807) : evalF Try.prog CC (d + 50) 13 [encTs bl l] St.empty = some (resC (checkAll l)) := by
  generalize hX : some (resC (checkAll l)) = X
  unfold checkAll at hX
  refine wp_eq ?_
  rw [run_13 _ _ _ (by simp)]; unfold Try.f13; simp only [Option.getD_some]
  simp only [encTs]
  simp only [go_sem, ↓reduceIte, Nat.reduceEqDiff, Nat.reduceAdd, reduceCtorEq, CCT, CCv, CCr, CCk, Nat.reduceBNe, Nat.reduceLeDiff, Nat.reduceLT, beqI, bneI, List.length_map, decide_true, decide_false, Int.reduceEq, Int.reduceLT, Int.reduceLE, Int.reduceGE, Int.reduceGT, not_true_eq_false, not_false_eq_true, Bool.and_true, Bool.true_and, Bool.and_false, Bool.false_and, and_true, true_and, and_self, Bool.not_not, *]
  refine W.br_dec (fun h => ?_) (fun h => ?_)
  · rw [if_pos (by omega)] at hX
    simp only [go_sem, ↓reduceIte, Nat.reduceEqDiff, Nat.reduceAdd, reduceCtorEq, CCT, CCv, CCr, CCk, Nat.reduceBNe, Nat.reduceLeDiff, Nat.reduceLT, beqI, bneI, List.length_map, decide_true, decide_false, Int.reduceEq, Int.reduceLT, Int.reduceLE, Int.reduceGE, Int.reduceGT, not_true_eq_false, not_false_eq_true, Bool.and_true, Bool.true_and, Bool.and_false, Bool.false_and, and_true, true_and, and_self, Bool.not_not, *]
    exact hX
  rw [if_neg (by omega)] at hX
  simp only [go_sem, ↓reduceIte, Nat.reduceEqDiff, Nat.reduceAdd, reduceCtorEq, CCT, CCv, CCr, CCk, Nat.reduceBNe, Nat.reduceLeDiff, Nat.reduceLT, beqI, bneI, List.length_map, decide_true, decide_false, Int.reduceEq, Int.reduceLT, Int.reduceLE, Int.reduceGE, Int.reduceGT, not_true_eq_false, not_false_eq_true, Bool.and_true, Bool.true_and, Bool.and_false, Bool.false_and, and_true, true_and, and_self, Bool.not_not, *]
  refine W.iter_rule (fun i ρ s => ρ 0 = .list 32 bl (l.map encTy) none ∧ ρ 4 = .int .i64 i ∧ firstS (checkS l) (l.length - i) i = firstS (checkS l) l.length 0) l.length ?_ ?_ _ 0 _ _ (Nat.zero_le _) ?_ ?_
  · rintro i ρ s hi ⟨h0, h13, hf⟩ K hK hx hr
    have hlt : (i : Int) < (l.length : Int) := by omega
    have hwrap : IntKind.i64.wrap ((i : Int) + 1) = ((i + 1 : Nat) : Int) := by rw [IntKind.wrap_i64]; omega
    have hc := fun d => Type_c d bl l i hi (by omega) hnm
    simp only [encTs] at hc
    rw [show l.length - i = (l.length - (i + 1)) + 1 by omega, firstS] at hf
    simp only [go_sem, ↓reduceIte, Nat.reduceEqDiff, Nat.reduceAdd, reduceCtorEq, CCT, CCv, CCr, CCk, Nat.reduceBNe, Nat.reduceLeDiff, Nat.reduceLT, beqI, bneI, List.length_map, decide_true, decide_false, Int.reduceEq, Int.reduceLT, Int.reduceLE, Int.reduceGE, Int.reduceGT, not_true_eq_false, not_false_eq_true, Bool.and_true, Bool.true_and, Bool.and_false, Bool.false_and, and_true, true_and, and_self, Bool.not_not, hc, h0, h13, hlt]
    refine W.br_ndec (fun h => ?_) (fun h => ?_)
    · rw [if_pos (by simpa using h)] at hf
      rw [← hf] at hX
      simp only [go_sem, ↓reduceIte, Nat.reduceEqDiff, Nat.reduceAdd, reduceCtorEq, CCT, CCv, CCr, CCk, Nat.reduceBNe, Nat.reduceLeDiff, Nat.reduceLT, beqI, bneI, List.length_map, decide_true, decide_false, Int.reduceEq, Int.reduceLT, Int.reduceLE, Int.reduceGE, Int.reduceGT, not_true_eq_false, not_false_eq_true, Bool.and_true, Bool.true_and, Bool.and_false, Bool.false_and, and_true, true_and, and_self, Bool.not_not, hc, h0, h13, hlt, hr]
      exact hX
    · rw [if_neg (by simpa using h)] at hf
      simp only [go_sem, ↓reduceIte, Nat.reduceEqDiff, Nat.reduceAdd, reduceCtorEq, CCT, CCv, CCr, CCk, Nat.reduceBNe, Nat.reduceLeDiff, Nat.reduceLT, beqI, bneI, List.length_map, decide_true, decide_false, Int.reduceEq, Int.reduceLT, Int.reduceLE, Int.reduceGE, Int.reduceGT, not_true_eq_false, not_false_eq_true, Bool.and_true, Bool.true_and, Bool.and_false, Bool.false_and, and_true, true_and, and_self, Bool.not_not, hc, h0, h13, hlt, hwrap]
      refine hK _ _ ?_
      exact ⟨by (try simp only [go_sem, ↓reduceIte, Nat.reduceEqDiff, Nat.reduceAdd, reduceCtorEq, CCT, CCv, CCr, CCk, Nat.reduceBNe, Nat.reduceLeDiff, Nat.reduceLT, beqI, bneI, List.length_map, decide_true, decide_false, Int.reduceEq, Int.reduceLT, Int.reduceLE, Int.reduceGE, Int.reduceGT, not_true_eq_false, not_false_eq_true, Bool.and_true, Bool.true_and, Bool.and_false, Bool.false_and, and_true, true_and, and_self, Bool.not_not, Int.toNat_natCast, List.length_take, *]) <;> (first | done | rfl | omega | (simp; done) | (simp; omega)), by (try simp only [go_sem, ↓reduceIte, Nat.reduceEqDiff, Nat.reduceAdd, reduceCtorEq, CCT, CCv, CCr, CCk, Nat.reduceBNe, Nat.reduceLeDiff, Nat.reduceLT, beqI, bneI, List.length_map, decide_true, decide_false, Int.reduceEq, Int.reduceLT, Int.reduceLE, Int.reduceGE, Int.reduceGT, not_true_eq_false, not_false_eq_true, Bool.and_true, Bool.true_and, Bool.and_false, Bool.false_and, and_true, true_and, and_self, Bool.not_not, Int.toNat_natCast, List.length_take, *]) <;> (first | done | rfl | omega | (simp; done) | (simp; omega)), hf⟩
  · rintro ρ s ⟨h0, h13, hf⟩ K hx hr
    have hlt : ¬ (l.length : Int) < (l.length : Int) := by omega
    rw [Nat.sub_self] at hf
    have hall := fun i hi => firstS_none hf.symm i (Nat.zero_le _) (by rw [Nat.zero_add]; exact hi)
    obtain ⟨hfl, hok⟩ := all_ok hall
    rw [← hf] at hX
    simp only [firstS] at hX
    simp only [go_sem, ↓reduceIte, Nat.reduceEqDiff, Nat.reduceAdd, reduceCtorEq, CCT, CCv, CCr, CCk, Nat.reduceBNe, Nat.reduceLeDiff, Nat.reduceLT, beqI, bneI, List.length_map, decide_true, decide_false, Int.reduceEq, Int.reduceLT, Int.reduceLE, Int.reduceGE, Int.reduceGT, not_true_eq_false, not_false_eq_true, Bool.and_true, Bool.true_and, Bool.and_false, Bool.false_and, and_true, true_and, and_self, Bool.not_not, hx, h0, h13, hlt]
    clear hx hr
    refine W.iter_rule (fun i ρ s => ρ 0 = .list 32 bl (l.map encTy) none ∧ ρ 6 = .int .i64 i ∧ firstS (ringS l) (l.length - i) i = firstS (ringS l) l.length 0) l.length ?_ ?_ _ 0 _ _ (Nat.zero_le _) ?_ ?_
    · rintro i ρ s hi ⟨h0, h26, hf⟩ K hK hx hr
      have hlt : (i : Int) < (l.length : Int) := by omega
      have hwrap : IntKind.i64.wrap ((i : Int) + 1) = ((i + 1 : Nat) : Int) := by rw [IntKind.wrap_i64]; omega
      rw [show l.length - i = (l.length - (i + 1)) + 1 by omega, firstS] at hf
      have hit := fun d => Itself_c d bl l i hi (by omega) hfl hok
      have hiff := itself_iff hok (i := (i : Int)) (by omega) hlt
      simp only [encTs] at hit
      simp only [go_sem, ↓reduceIte, Nat.reduceEqDiff, Nat.reduceAdd, reduceCtorEq, CCT, CCv, CCr, CCk, Nat.reduceBNe, Nat.reduceLeDiff, Nat.reduceLT, beqI, bneI, List.length_map, decide_true, decide_false, Int.reduceEq, Int.reduceLT, Int.reduceLE, Int.reduceGE, Int.reduceGT, not_true_eq_false, not_false_eq_true, Bool.and_true, Bool.true_and, Bool.and_false, Bool.false_and, and_true, true_and, and_self, Bool.not_not, h0, h26, hlt]
      refine W.idx_at (by omega) (by omega) ?_
      generalize ht : at0 l (i : Int) = t at hit hiff ⊢
      obtain ⟨name, tv, tr, tb, fs⟩ := t
      simp only at hit hiff
      simp only [go_sem, ↓reduceIte, Nat.reduceEqDiff, Nat.reduceAdd, reduceCtorEq, CCT, CCv, CCr, CCk, Nat.reduceBNe, Nat.reduceLeDiff, Nat.reduceLT, beqI, bneI, List.length_map, decide_true, decide_false, Int.reduceEq, Int.reduceLT, Int.reduceLE, Int.reduceGE, Int.reduceGT, not_true_eq_false, not_false_eq_true, Bool.and_true, Bool.true_and, Bool.and_false, Bool.false_and, and_true, true_and, and_self, Bool.not_not, encTy, h0, h26, hlt]
      have r0 : tr = false → ringS l i = 0 := fun h => by unfold ringS; rw [ht]; simp [h]
      have r7 : tr = true → Rch l i i → ringS l i = 7 := fun h h2 => by unfold ringS; rw [ht]; simp [h, h2]
      have rn : ¬ Rch l i i → ringS l i = 0 := fun h2 => by unfold ringS; simp [h2]
      refine W.want_split (fun h => ?_) (fun h => ?_)
      · subst h
        simp only [go_sem, ↓reduceIte, Nat.reduceEqDiff, Nat.reduceAdd, reduceCtorEq, CCT, CCv, CCr, CCk, Nat.reduceBNe, Nat.reduceLeDiff, Nat.reduceLT, beqI, bneI, List.length_map, decide_true, decide_false, Int.reduceEq, Int.reduceLT, Int.reduceLE, Int.reduceGE, Int.reduceGT, not_true_eq_false, not_false_eq_true, Bool.and_true, Bool.true_and, Bool.and_false, Bool.false_and, and_true, true_and, and_self, Bool.not_not, hit, h0, h26, hlt]
        refine W.br_dec (fun hq => ?_) (fun hq => ?_)
        · have hq := hiff.1 hq
          rw [if_pos (by rw [r7 rfl hq]; decide), r7 rfl hq] at hf
          rw [← hf] at hX
          simp only [go_sem, ↓reduceIte, Nat.reduceEqDiff, Nat.reduceAdd, reduceCtorEq, CCT, CCv, CCr, CCk, Nat.reduceBNe, Nat.reduceLeDiff, Nat.reduceLT, beqI, bneI, List.length_map, decide_true, decide_false, Int.reduceEq, Int.reduceLT, Int.reduceLE, Int.reduceGE, Int.reduceGT, not_true_eq_false, not_false_eq_true, Bool.and_true, Bool.true_and, Bool.and_false, Bool.false_and, and_true, true_and, and_self, Bool.not_not, hr, h0, h26, hlt]
          exact hX
        · have hq := fun h => hq (hiff.2 h)
          rw [if_neg (by rw [rn hq]; decide)] at hf
          simp only [go_sem, ↓reduceIte, Nat.reduceEqDiff, Nat.reduceAdd, reduceCtorEq, CCT, CCv, CCr, CCk, Nat.reduceBNe, Nat.reduceLeDiff, Nat.reduceLT, beqI, bneI, List.length_map, decide_true, decide_false, Int.reduceEq, Int.reduceLT, Int.reduceLE, Int.reduceGE, Int.reduceGT, not_true_eq_false, not_false_eq_true, Bool.and_true, Bool.true_and, Bool.and_false, Bool.false_and, and_true, true_and, and_self, Bool.not_not, h0, h26, hlt, hwrap]
          refine hK _ _ ?_
          exact ⟨by (try simp only [go_sem, ↓reduceIte, Nat.reduceEqDiff, Nat.reduceAdd, reduceCtorEq, CCT, CCv, CCr, CCk, Nat.reduceBNe, Nat.reduceLeDiff, Nat.reduceLT, beqI, bneI, List.length_map, decide_true, decide_false, Int.reduceEq, Int.reduceLT, Int.reduceLE, Int.reduceGE, Int.reduceGT, not_true_eq_false, not_false_eq_true, Bool.and_true, Bool.true_and, Bool.and_false, Bool.false_and, and_true, true_and, and_self, Bool.not_not, Int.toNat_natCast, List.length_take, *]) <;> (first | done | rfl | omega | (simp; done) | (simp; omega)), by (try simp only [go_sem, ↓reduceIte, Nat.reduceEqDiff, Nat.reduceAdd, reduceCtorEq, CCT, CCv, CCr, CCk, Nat.reduceBNe, Nat.reduceLeDiff, Nat.reduceLT, beqI, bneI, List.length_map, decide_true, decide_false, Int.reduceEq, Int.reduceLT, Int.reduceLE, Int.reduceGE, Int.reduceGT, not_true_eq_false, not_false_eq_true, Bool.and_true, Bool.true_and, Bool.and_false, Bool.false_and, and_true, true_and, and_self, Bool.not_not, Int.toNat_natCast, List.length_take, *]) <;> (first | done | rfl | omega | (simp; done) | (simp; omega)), hf⟩
      · have h : tr = false := by simpa using h
        subst h
        rw [if_neg (by rw [r0 rfl]; decide)] at hf
        simp only [go_sem, ↓reduceIte, Nat.reduceEqDiff, Nat.reduceAdd, reduceCtorEq, CCT, CCv, CCr, CCk, Nat.reduceBNe, Nat.reduceLeDiff, Nat.reduceLT, beqI, bneI, List.length_map, decide_true, decide_false, Int.reduceEq, Int.reduceLT, Int.reduceLE, Int.reduceGE, Int.reduceGT, not_true_eq_false, not_false_eq_true, Bool.and_true, Bool.true_and, Bool.and_false, Bool.false_and, and_true, true_and, and_self, Bool.not_not, h0, h26, hlt, hwrap]
        refine hK _ _ ?_
        exact ⟨by (try simp only [go_sem, ↓reduceIte, Nat.reduceEqDiff, Nat.reduceAdd, reduceCtorEq, CCT, CCv, CCr, CCk, Nat.reduceBNe, Nat.reduceLeDiff, Nat.reduceLT, beqI, bneI, List.length_map, decide_true, decide_false, Int.reduceEq, Int.reduceLT, Int.reduceLE, Int.reduceGE, Int.reduceGT, not_true_eq_false, not_false_eq_true, Bool.and_true, Bool.true_and, Bool.and_false, Bool.false_and, and_true, true_and, and_self, Bool.not_not, Int.toNat_natCast, List.length_take, *]) <;> (first | done | rfl | omega | (simp; done) | (simp; omega)), by (try simp only [go_sem, ↓reduceIte, Nat.reduceEqDiff, Nat.reduceAdd, reduceCtorEq, CCT, CCv, CCr, CCk, Nat.reduceBNe, Nat.reduceLeDiff, Nat.reduceLT, beqI, bneI, List.length_map, decide_true, decide_false, Int.reduceEq, Int.reduceLT, Int.reduceLE, Int.reduceGE, Int.reduceGT, not_true_eq_false, not_false_eq_true, Bool.and_true, Bool.true_and, Bool.and_false, Bool.false_and, and_true, true_and, and_self, Bool.not_not, Int.toNat_natCast, List.length_take, *]) <;> (first | done | rfl | omega | (simp; done) | (simp; omega)), hf⟩
    · rintro ρ s ⟨h0, h26, hf⟩ K hx hr
      have hlt : ¬ (l.length : Int) < (l.length : Int) := by omega
      rw [Nat.sub_self] at hf
      rw [← hf] at hX
      simp only [firstS] at hX
      simp only [go_sem, ↓reduceIte, Nat.reduceEqDiff, Nat.reduceAdd, reduceCtorEq, CCT, CCv, CCr, CCk, Nat.reduceBNe, Nat.reduceLeDiff, Nat.reduceLT, beqI, bneI, List.length_map, decide_true, decide_false, Int.reduceEq, Int.reduceLT, Int.reduceLE, Int.reduceGE, Int.reduceGT, not_true_eq_false, not_false_eq_true, Bool.and_true, Bool.true_and, Bool.and_false, Bool.false_and, and_true, true_and, and_self, Bool.not_not, hx, h0, h26, hlt]
      exact hX
    · show l.length < 0 + 9223372036854775900
      omega
    · exact ⟨by (try simp only [go_sem, ↓reduceIte, Nat.reduceEqDiff, Nat.reduceAdd, reduceCtorEq, CCT, CCv, CCr, CCk, Nat.reduceBNe, Nat.reduceLeDiff, Nat.reduceLT, beqI, bneI, List.length_map, decide_true, decide_false, Int.reduceEq, Int.reduceLT, Int.reduceLE, Int.reduceGE, Int.reduceGT, not_true_eq_false, not_false_eq_true, Bool.and_true, Bool.true_and, Bool.and_false, Bool.false_and, and_true, true_and, and_self, Bool.not_not, Int.toNat_natCast, List.length_take, *]) <;> (first | done | rfl | omega | (simp; done) | (simp; omega)), by (try simp only [go_sem, ↓reduceIte, Nat.reduceEqDiff, Nat.reduceAdd, reduceCtorEq, CCT, CCv, CCr, CCk, Nat.reduceBNe, Nat.reduceLeDiff, Nat.reduceLT, beqI, bneI, List.length_map, decide_true, decide_false, Int.reduceEq, Int.reduceLT, Int.reduceLE, Int.reduceGE, Int.reduceGT, not_true_eq_false, not_false_eq_true, Bool.and_true, Bool.true_and, Bool.and_false, Bool.false_and, and_true, true_and, and_self, Bool.not_not, Int.toNat_natCast, List.length_take, *]) <;> (first | done | rfl | omega | (simp; done) | (simp; omega)), rfl⟩
  · show l.length < 0 + 9223372036854775900
    omega
  · exact ⟨by (try simp only [go_sem, ↓reduceIte, Nat.reduceEqDiff, Nat.reduceAdd, reduceCtorEq, CCT, CCv, CCr, CCk, Nat.reduceBNe, Nat.reduceLeDiff, Nat.reduceLT, beqI, bneI, List.length_map, decide_true, decide_false, Int.reduceEq, Int.reduceLT, Int.reduceLE, Int.reduceGE, Int.reduceGT, not_true_eq_false, not_false_eq_true, Bool.and_true, Bool.true_and, Bool.and_false, Bool.false_and, and_true, true_and, and_self, Bool.not_not, Int.toNat_natCast, List.length_take, *]) <;> (first | done | rfl | omega | (simp; done) | (simp; omega)), by (try simp only [go_sem, ↓reduceIte, Nat.reduceEqDiff, Nat.reduceAdd, reduceCtorEq, CCT, CCv, CCr, CCk, Nat.reduceBNe, Nat.reduceLeDiff, Nat.reduceLT, beqI, bneI, List.length_map, decide_true, decide_false, Int.reduceEq, Int.reduceLT, Int.reduceLE, Int.reduceGE, Int.reduceGT, not_true_eq_false, not_false_eq_true, Bool.and_true, Bool.true_and, Bool.and_false, Bool.false_and, and_true, true_and, and_self, Bool.not_not, Int.toNat_natCast, List.length_take, *]) <;> (first | done | rfl | omega | (simp; done) | (simp; omega)), rfl⟩
theorem law3 (d : Nat) (bl : Bool) (l : List Typ) (hl : l.length ≤ 9223372036854775807) (hnm : ∀ t ∈ l, t.name.size ≤ 9223372036854775807) : evalF Try.prog CC (d + 60) 3 [encTs bl l] St.empty = some (.bool true, St.empty) := by
  have hs := fun d => shown_c d
  have h1 := fun d => Check_c d bl l hl
  have h2 := fun d => refCheck_c d bl l hl hnm
  simp only [encTs, resC] at h1 h2
  rw [run_3 _ _ _ (by simp)]; unfold Try.f3; simp only [Option.getD_some]
  simp only [encTs]
  simp only [go_sem, ↓reduceIte, Nat.reduceEqDiff, Nat.reduceAdd, reduceCtorEq, CCT, CCv, CCr, CCk, Nat.reduceBNe, Nat.reduceLeDiff, Nat.reduceLT, beqI, bneI, List.length_map, decide_true, decide_false, Int.reduceEq, Int.reduceLT, Int.reduceLE, Int.reduceGE, Int.reduceGT, not_true_eq_false, not_false_eq_true, Bool.and_true, Bool.true_and, Bool.and_false, Bool.false_and, and_true, true_and, and_self, Bool.not_not, *]
theorem arg_typs {v : AV} (h : Arg T 22 v) : ∃ b l, v = encTs b l ∧ l.length ≤ 9223372036854775807 ∧ (∀ t ∈ l, t.name.size ≤ 9223372036854775807) ∧ (∀ t ∈ l, t.fields.length ≤ maxLen) ∧ (b = true → l = []) ∧ ∀ t ∈ l, t.nil = true → t.fields = [] := by
  have hmx : maxLen ≤ 9223372036854775807 := by decide
  obtain ⟨b, xs, rfl, hx, hb, hl⟩ := arg_slice h ty_22
  have hx2 : ∀ x ∈ xs, ∃ t : Typ, x = encTy t ∧ t.name.size ≤ 9223372036854775807 ∧ t.fields.length ≤ maxLen ∧ (t.nil = true → t.fields = []) := by
    intro x hxm
    obtain ⟨vs, rfl, hl, hv⟩ := arg_struct (hx x hxm) ty_32
    match vs, hl with
    | [a, b, c, d], _ =>
      have ha := hv 0 _ _ rfl rfl
      obtain ⟨x, rfl⟩ := arg_bool (hv 1 _ _ rfl rfl) ty_4
      obtain ⟨y, rfl⟩ := arg_bool (hv 2 _ _ rfl rfl) ty_4
      obtain ⟨z, xs, rfl, hx, hz, hlen⟩ := arg_slice (hv 3 _ _ rfl rfl) ty_30
      obtain ⟨fs, rfl⟩ := map_of (p := fun _ => True) (g := encF) (fun x hx' => arg_fld (hx x hx'))
      obtain ⟨s, rfl⟩ := arg_str ha ty_9
      have hs : s.size ≤ maxLen := by cases ha; assumption
      exact ⟨⟨s, x, y, z, fs⟩, rfl, Nat.le_trans hs hmx, by simpa using hlen, fun h => by simpa using hz h⟩
  clear hx
  have : ∃ l : List Typ, xs = l.map encTy ∧ ∀ t ∈ l, t.name.size ≤ 9223372036854775807 ∧ t.fields.length ≤ maxLen ∧ (t.nil = true → t.fields = []) := by
    clear hb hl h
    induction xs with
    | nil => exact ⟨[], rfl, by simp⟩
    | cons x xs ih =>
      obtain ⟨t, rfl, h1⟩ := hx2 x (by simp)
      obtain ⟨l, rfl, h2⟩ := ih (fun y hy => hx2 y (by simp [hy]))
      exact ⟨t :: l, rfl, fun u hu => by
        rcases List.mem_cons.1 hu with rfl | hu
        · exact h1
        · exact h2 u hu⟩
  obtain ⟨l, rfl, h2⟩ := this
  exact ⟨b, l, rfl, Nat.le_trans (by simpa using hl) hmx, fun t ht => (h2 t ht).1, fun t ht => (h2 t ht).2.1, fun h => by simpa using hb h, fun t ht => (h2 t ht).2.2⟩
theorem checks_law (d : Nat) (a : AV) (h : Arg T 22 a) : ∃ σ', evalF Try.prog CC (d + 60) 3 [a] St.empty = some (.bool true, σ') := by
  obtain ⟨b, l, rfl, h1, h2, _⟩ := arg_typs h
  exact ⟨_, law3 d b l h1 h2⟩
end Go.Proofs.Ytjembadjfiohpaa.Va
