/- chapter 5: the document's layout, sameness -/
import Derived.Test.YtjembadjfiohpaaFivA
namespace Go.Proofs.Ytjembadjfiohpaa.Va
open Go
set_option linter.unusedVariables false
set_option linter.unusedSimpArgs false
set_option maxRecDepth 100000
theorem RefLayout_c (d : Nat) (name : ByteArray) (v r b : Bool) (fs : List Fld) : evalF Try.prog CC (d + 5) 15 [encT name v r b fs] St.empty = some (layR fs) := by
  rw [run_15 _ _ _ (by simp)]
  unfold Try.f15 encT
  simp only [Option.getD_some]
  simp only [go_sem, ↓reduceIte, Nat.reduceEqDiff, Nat.reduceAdd, reduceCtorEq, CCT, CCv, CCr, CCk, Nat.reduceBNe, Nat.reduceLeDiff, *]
  refine br_split (fun h => ?_) (fun h => ?_) <;> simp only [go_sem, ↓reduceIte, Nat.reduceEqDiff, Nat.reduceAdd, reduceCtorEq, CCT, CCv, CCr, CCk, Nat.reduceBNe, Nat.reduceLeDiff, *]
  · have : 12 < fs.length := by simp at h; omega
    simp [layR, this]
  · have h12 : ¬ 12 < fs.length := by simp at h; omega
    refine iter_rule (fun i ρ σ => ρ 1 = .ptr 32 0 [0] ∧ σ.obj 0 = some (.cells 32 [.agg 32 [.str name, .bool v, .bool r, .list 41 b (fs.map encF) none]]) ∧ 0 < σ.next ∧ ρ 7 = .int .i64 i ∧ ∃ xs a, GrowOk (ρ 5) xs σ ∧ ρ 6 = .int .i64 a ∧ xs.length = i ∧ layS (fs.drop i) a xs = layS fs 8 []) fs.length ?_ ?_ _ 0 _ _ (Nat.zero_le _) ?_ ?_
    · intro i ρ σ hi ⟨h1, hob, hnx, h7, xs, a, hg, h6, hxl, hl⟩ K hK hx hr
      have hlt : decide ((i : Int) < ((fs.map encF).length : Int)) = true := by simp; omega
      have hwrap : IntKind.i64.wrap ((i : Int) + 1) = ((i + 1 : Nat) : Int) := by rw [IntKind.wrap_i64]; omega
      have hsz := fun d => Size_c d fs[i]
      have hidx : idxOk (i : Int) (fs.map encF).length = true := by simp [idxOk]; omega
      have hget : (fs.map encF)[(i : Int).toNat]? = some (encF fs[i]) := by simp [hi]
      simp only [go_sem, ↓reduceIte, Nat.reduceEqDiff, Nat.reduceAdd, reduceCtorEq, CCT, CCv, CCr, CCk, Nat.reduceBNe, Nat.reduceLeDiff, *]
      have hdrop : layS (fs.drop i) a xs = if sizeS fs[i] = 0 then none else layS (fs.drop (i + 1)) (IntKind.i64.wrap (a + sizeS fs[i])) (xs ++ [a]) := by
        rw [List.drop_eq_getElem_cons hi]; rfl
      refine br_split (fun h0 => ?_) (fun h0 => ?_) <;> simp only [go_sem, ↓reduceIte, Nat.reduceEqDiff, Nat.reduceAdd, reduceCtorEq, CCT, CCv, CCr, CCk, Nat.reduceBNe, Nat.reduceLeDiff, *]
      · have hz : sizeS fs[i] = 0 := by simpa using h0
        rw [if_pos hz, hl] at hdrop
        simp [layR, h12, hdrop]
      · have hz : ¬ sizeS fs[i] = 0 := by simpa using h0
        rw [if_neg hz, hl] at hdrop
        rcases hg with ⟨rfl, h5⟩ | ⟨t, h5, hlive, hne⟩
        · have hrm : roomy T 3 1 = true := roomy_of (by omega) (by decide)
          simp only [go_sem, ↓reduceIte, Nat.reduceEqDiff, Nat.reduceAdd, reduceCtorEq, CCT, CCv, CCr, CCk, Nat.reduceBNe, Nat.reduceLeDiff, *]
          refine hK _ _ ⟨by simp only [go_sem, ↓reduceIte, Nat.reduceEqDiff, *], by simp only [go_sem, ↓reduceIte, Nat.reduceEqDiff, *], by simp only [go_sem, ↓reduceIte, Nat.reduceEqDiff, *], by simp only [go_sem, ↓reduceIte, Nat.reduceEqDiff, *], [a], IntKind.i64.wrap (a + sizeS fs[i]), .inr ⟨σ.ntok, ?_, ?_, by simp⟩, by simp only [go_sem, ↓reduceIte, Nat.reduceEqDiff], by simp at hxl ⊢; omega, by rw [hdrop]; rfl⟩
          · simp only [go_sem, ↓reduceIte, Nat.reduceEqDiff]; rfl
          · simp only [go_sem, ↓reduceIte]
        · have hrm : roomy T 3 ((intsA xs).length + 1) = true := roomy_of (by simp [intsA]; omega) (by decide)
          simp only [go_sem, ↓reduceIte, Nat.reduceEqDiff, Nat.reduceAdd, reduceCtorEq, CCT, CCv, CCr, CCk, Nat.reduceBNe, Nat.reduceLeDiff, *]
          refine hK _ _ ⟨by simp only [go_sem, ↓reduceIte, Nat.reduceEqDiff, *], by simp only [go_sem, ↓reduceIte, Nat.reduceEqDiff, *], by simp only [go_sem, ↓reduceIte, Nat.reduceEqDiff, *], by simp only [go_sem, ↓reduceIte, Nat.reduceEqDiff, *], xs ++ [a], IntKind.i64.wrap (a + sizeS fs[i]), .inr ⟨σ.ntok, ?_, ?_, by simp⟩, by simp only [go_sem, ↓reduceIte, Nat.reduceEqDiff], by simp [hxl], by rw [hdrop]⟩
          · simp only [go_sem, ↓reduceIte, Nat.reduceEqDiff]; simp [intsA]
          · simp only [go_sem, ↓reduceIte]
    · intro ρ σ ⟨h1, hob, hnx, h7, xs, a, hg, h6, hxl, hl⟩ K hx hr
      have hlt : decide ((fs.length : Int) < ((fs.map encF).length : Int)) = false := by simp
      have hl : layS fs 8 [] = some (xs, a) := by rw [← hl, List.drop_length]; rfl
      simp only [go_sem, ↓reduceIte, Nat.reduceEqDiff, Nat.reduceAdd, reduceCtorEq, CCT, CCv, CCr, CCk, Nat.reduceBNe, Nat.reduceLeDiff, *]
      refine br_split (fun h0 => ?_) (fun h0 => ?_) <;> simp only [go_sem, ↓reduceIte, Nat.reduceEqDiff, Nat.reduceAdd, reduceCtorEq, CCT, CCv, CCr, CCk, Nat.reduceBNe, Nat.reduceLeDiff, *]
      · have : a > 256 := by simpa using h0
        simp [layR, h12, hl, this]
      · have : ¬ a > 256 := by simpa using h0
        rcases hg with ⟨rfl, h5⟩ | ⟨t, h5, hlive, hne⟩
        · simp only [go_sem, ↓reduceIte, Nat.reduceEqDiff, Nat.reduceAdd, reduceCtorEq, CCT, CCv, CCr, CCk, Nat.reduceBNe, Nat.reduceLeDiff, *]
          simp [layR, h12, hl, this, valSt1]
        · simp only [go_sem, ↓reduceIte, Nat.reduceEqDiff, Nat.reduceAdd, reduceCtorEq, CCT, CCv, CCr, CCk, Nat.reduceBNe, Nat.reduceLeDiff, *]
          simp [layR, h12, hl, this, hne, valSt1]
    · show fs.length < 0 + 9223372036854775900
      omega
    · simp only [go_sem, ↓reduceIte, Nat.reduceEqDiff, Nat.reduceAdd, reduceCtorEq, CCT, CCv, CCr, CCk, Nat.reduceBNe, Nat.reduceLeDiff, *]
      exact ⟨trivial, trivial, by decide, rfl, [], 8, .inl ⟨rfl, rfl⟩, rfl, rfl, rfl⟩
theorem Same_c (d : Nat) (b1 b2 : Bool) (k1 k2 : Option Nat) (l m : List Int) (hlen : l.length ≤ 1000) : evalF Try.prog CC (d + 5) 16 [.list 3 b1 (intsA l) k1, .list 3 b2 (intsA m) k2] St.empty = some (.bool (l == m), St.empty) := by
  rw [run_16 _ _ _ (by simp)]
  unfold Try.f16
  simp only [Option.getD_some]
  simp only [go_sem, ↓reduceIte, Nat.reduceEqDiff, Nat.reduceAdd, reduceCtorEq, CCT, CCv, CCr, CCk, Nat.reduceBNe, Nat.reduceLeDiff, *]
  have hll : (intsA l).length = l.length := by simp [intsA]
  have hml : (intsA m).length = m.length := by simp [intsA]
  refine br_split (fun h => ?_) (fun h => ?_) <;> simp only [go_sem, ↓reduceIte, Nat.reduceEqDiff, Nat.reduceAdd, reduceCtorEq, CCT, CCv, CCr, CCk, Nat.reduceBNe, Nat.reduceLeDiff, *]
  · have hne : (l == m) = false := by
      simp only [beq_eq_false_iff_ne]; rintro rfl; simp at h
    rw [hne]
  · have heq : l.length = m.length := by simp at h; omega
    refine iter_rule (fun i ρ σ => ρ 0 = .list 3 b1 (intsA l) k1 ∧ ρ 1 = .list 3 b2 (intsA m) k2 ∧ ρ 5 = .int .i64 i ∧ l.take i = m.take i) l.length ?_ ?_ _ 0 _ _ (Nat.zero_le _) ?_ ?_
    · intro i ρ σ hi ⟨h0, h1, h5, hp⟩ K hK hx hr
      have hlt : decide ((i : Int) < (l.length : Int)) = true := by simp; omega
      have hwrap : IntKind.i64.wrap ((i : Int) + 1) = ((i + 1 : Nat) : Int) := by rw [IntKind.wrap_i64]; omega
      have hi1 : idxOk (i : Int) l.length = true := by simp [idxOk]; omega
      have him : i < m.length := by omega
      have hi2 : idxOk (i : Int) m.length = true := by simp [idxOk]; omega
      have hg1 : (intsA l)[(i : Int).toNat]? = some (.int .i64 l[i]) := by simp [intsA, hi]
      have hg2 : (intsA m)[(i : Int).toNat]? = some (.int .i64 (m[i]'him)) := by
        have : i < m.length := by omega
        simp [intsA, this]
      clear heq
      simp only [go_sem, ↓reduceIte, Nat.reduceEqDiff, Nat.reduceAdd, reduceCtorEq, CCT, CCv, CCr, CCk, Nat.reduceBNe, Nat.reduceLeDiff, *]
      refine br_ok (by kernel_rfl) ?_
      simp only [go_sem, ↓reduceIte, Nat.reduceEqDiff, Nat.reduceAdd, reduceCtorEq, CCT, CCv, CCr, CCk, Nat.reduceBNe, Nat.reduceLeDiff, *]
      refine br_split (fun hd => ?_) (fun hd => ?_) <;> simp only [go_sem, ↓reduceIte, Nat.reduceEqDiff, Nat.reduceAdd, reduceCtorEq, CCT, CCv, CCr, CCk, Nat.reduceBNe, Nat.reduceLeDiff, *]
      · have hne : (l == m) = false := by
          simp only [beq_eq_false_iff_ne]; rintro rfl; simp at hd
        rw [hne]
      · refine hK _ _ ⟨by simp only [go_sem, ↓reduceIte, Nat.reduceEqDiff, *], by simp only [go_sem, ↓reduceIte, Nat.reduceEqDiff, *], by simp only [go_sem, ↓reduceIte, Nat.reduceEqDiff, *], ?_⟩
        have hq : l[i] = m[i]'him := by simpa using hd
        rw [List.take_succ_eq_append_getElem hi, List.take_succ_eq_append_getElem him, hp, hq]
    · intro ρ σ ⟨h0, h1, h5, hp⟩ K hx hr
      have hlt : decide ((l.length : Int) < (l.length : Int)) = false := by simp
      have he : (l == m) = true := by
        rw [List.take_length, heq, List.take_length] at hp
        simpa using hp
      clear heq
      simp only [go_sem, ↓reduceIte, Nat.reduceEqDiff, Nat.reduceAdd, reduceCtorEq, CCT, CCv, CCr, CCk, Nat.reduceBNe, Nat.reduceLeDiff, *]
    · show l.length < 0 + 9223372036854775900
      omega
    · simp only [go_sem, ↓reduceIte, Nat.reduceEqDiff, Nat.reduceAdd, reduceCtorEq, CCT, CCv, CCr, CCk, Nat.reduceBNe, Nat.reduceLeDiff, *]
      exact ⟨trivial, trivial, rfl, rfl⟩
theorem Same_mt (d : Nat) : evalF Try.prog CC (d + 5) 16 [.mt true, .mt true] St.empty = some (.bool true, St.empty) := by
  rw [run_16 _ _ _ (by simp)]
  unfold Try.f16
  simp only [Option.getD_some]
  simp only [go_sem, ↓reduceIte, Nat.reduceEqDiff, Nat.reduceAdd, reduceCtorEq, CCT, CCv, CCr, CCk, Nat.reduceBNe, Nat.reduceLeDiff, *]
  refine iter_rule (fun i ρ σ => ρ 0 = .mt true ∧ ρ 5 = .int .i64 0) 0 (fun i ρ σ hi => absurd hi (Nat.not_lt_zero _)) ?_ _ 0 _ _ (Nat.zero_le _) (by decide) ⟨rfl, rfl⟩
  intro ρ σ ⟨h0, h5⟩ K hx hr
  have hd : decide ((0 : Int) < 0) = false := rfl
  simp only [go_sem, ↓reduceIte, Nat.reduceEqDiff, Nat.reduceAdd, reduceCtorEq, CCT, CCv, CCr, CCk, Nat.reduceBNe, Nat.reduceLeDiff, *]
@[go_sem] theorem fits_encT (name : ByteArray) (v r b : Bool) (fs : List Fld) : fits T 32 (encT name v r b fs) = true := by simp [encT, fits, Tab.same]
@[go_sem] theorem freeze_encT (σ : St) (name : ByteArray) (v r b : Bool) (fs : List Fld) : freeze σ (encT name v r b fs) = some (encT name v r b fs) := by simp [encT, freeze, freezeL, fullT]
@[go_sem] theorem strip_encT (name : ByteArray) (v r b : Bool) (fs : List Fld) : strip (encT name v r b fs) = encT name v r b fs := by simp [encT, strip, stripL]
@[go_sem] theorem ids_encT (name : ByteArray) (v r b : Bool) (fs : List Fld) : viewIds (encT name v r b fs) = [] := by simp [encT, viewIds, viewIdsL]
theorem shown_c (d : Nat) : evalF Try.prog CC (d + 40) 11 [] St.empty = some (.bool true, St.empty) := by kernel_rfl
theorem layS_len : ∀ (fs : List Fld) (a : Int) (xs ys : List Int) (b : Int), layS fs a xs = some (ys, b) → ys.length = xs.length + fs.length
  | [], a, xs, ys, b, h => by simp only [layS, Option.some.injEq, Prod.mk.injEq] at h; rw [← h.1]; simp
  | f :: fs, a, xs, ys, b, h => by
    simp only [layS] at h
    split at h
    · cases h
    · rw [layS_len fs _ _ ys b h]; simp; omega
theorem layR_cases (fs : List Fld) : (∃ n e, layR fs = (.tup [.mt true, .int .i64 n, .int .i64 e], St.empty)) ∨
    ∃ xs a, xs.length ≤ 1000 ∧ layR fs = (.tup [.list 3 false (intsA xs) (some 1), .int .i64 a, .int .i64 0], ⟨fun _ => none, 0, fun i => i == 0, 1⟩) := by
  unfold layR
  split
  · exact .inl ⟨_, _, rfl⟩
  · rename_i h12
    split
    · exact .inl ⟨_, _, rfl⟩
    · rename_i xs a hl
      split
      · exact .inl ⟨_, _, rfl⟩
      · by_cases hx : xs = []
        · exact .inl ⟨a, 0, by simp [hx, valSt1]⟩
        · exact .inr ⟨xs, a, by have := layS_len fs _ _ _ _ hl; simp at this; omega, by simp [hx, valSt1]⟩
end Go.Proofs.Ytjembadjfiohpaa.Va
