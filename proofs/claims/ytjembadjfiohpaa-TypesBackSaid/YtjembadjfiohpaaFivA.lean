/- chapter 5: the sizes of fields -/
import Derived.Test.YtjembadjfiohpaaVaFun
import Derived.Laws.BitsLemmas
namespace Go.Proofs.Ytjembadjfiohpaa.Va
open Go
set_option linter.unusedVariables false
set_option linter.unusedSimpArgs false
set_option maxRecDepth 100000
structure Fld where
  kind : Int
  len : Int
  type : Int
  link : Int
  key : Int
def encF (f : Fld) : AV := .agg 41 [.int .i64 f.kind, .int .i64 f.len, .int .i64 f.type, .int .i64 f.link, .int .i64 f.key]
def sizeS (f : Fld) : Int := if f.kind = 1 then (if f.len < 1 ∨ f.len > 16 then 0 else IntKind.i64.wrap (8 * f.len)) else if f.kind = 2 ∨ f.kind = 5 ∨ f.kind = 6 ∨ f.kind = 7 then 8 else if f.kind = 3 then 16 else if f.kind = 4 then 24 else 0
set_option maxHeartbeats 1000000 in
theorem size_c (d : Nat) (f : Fld) : evalF Try.prog CC (d + 1) 26 [encF f] St.empty = some (.int .i64 (sizeS f), St.empty) := by
  rw [run_26 _ _ _ (by simp)]
  unfold Try.f26 encF
  simp only [Option.getD_some]
  simp only [go_sem, ↓reduceIte, Nat.reduceEqDiff, Nat.reduceAdd, reduceCtorEq, CCT, CCv, CCr, CCk, Nat.reduceBNe, Nat.reduceLeDiff, *]
  repeat' (first | rfl | refine br_split (fun h => ?_) (fun h => ?_) <;> simp only [go_sem, ↓reduceIte, Nat.reduceEqDiff, Nat.reduceAdd, reduceCtorEq, CCT, CCv, CCr, CCk, Nat.reduceBNe, Nat.reduceLeDiff, *] | refine want_split (fun h => ?_) (fun h => ?_) <;> simp only [go_sem, ↓reduceIte, Nat.reduceEqDiff, Nat.reduceAdd, reduceCtorEq, CCT, CCv, CCr, CCk, Nat.reduceBNe, Nat.reduceLeDiff, *])
  all_goals (simp_all [sizeS]; try omega)
theorem Size_c (d : Nat) (f : Fld) : evalF Try.prog CC (d + 1) 27 [encF f] St.empty = some (.int .i64 (sizeS f), St.empty) := by
  rw [run_27 _ _ _ (by simp)]
  unfold Try.f27 encF
  simp only [Option.getD_some]
  simp only [go_sem, ↓reduceIte, Nat.reduceEqDiff, Nat.reduceAdd, reduceCtorEq, CCT, CCv, CCr, CCk, Nat.reduceBNe, Nat.reduceLeDiff, *]
  repeat' (first | rfl | refine br_split (fun h => ?_) (fun h => ?_) <;> simp only [go_sem, ↓reduceIte, Nat.reduceEqDiff, Nat.reduceAdd, reduceCtorEq, CCT, CCv, CCr, CCk, Nat.reduceBNe, Nat.reduceLeDiff, *] | refine want_split (fun h => ?_) (fun h => ?_) <;> simp only [go_sem, ↓reduceIte, Nat.reduceEqDiff, Nat.reduceAdd, reduceCtorEq, CCT, CCv, CCr, CCk, Nat.reduceBNe, Nat.reduceLeDiff, *])
  all_goals (simp_all [sizeS]; try omega)
def encT (name : ByteArray) (v r b : Bool) (fs : List Fld) : AV := .agg 32 [.str name, .bool v, .bool r, .list 41 b (fs.map encF) none]
@[go_sem] theorem fits_encF (f : Fld) : fits T 41 (encF f) = true := by simp [encF, fits, Tab.same]
@[go_sem] theorem freeze_encF (σ : St) (f : Fld) : freeze σ (encF f) = some (encF f) := by simp [encF, freeze, freezeL]
@[go_sem] theorem strip_encF (f : Fld) : strip (encF f) = encF f := by simp [encF, strip, stripL]
@[go_sem] theorem ids_encF (f : Fld) : viewIds (encF f) = [] := by simp [encF, viewIds, viewIdsL]
def layS : List Fld → Int → List Int → Option (List Int × Int)
  | [], a, xs => some (xs, a)
  | f :: fs, a, xs => if sizeS f = 0 then none else layS fs (IntKind.i64.wrap (a + sizeS f)) (xs ++ [a])
def intsA (xs : List Int) : List AV := xs.map (.int .i64)
/-- the places so far: none yet, or a row that can be appended to -/
def GrowOk (v : AV) (xs : List Int) (σ : St) : Prop := (xs = [] ∧ v = .mt true) ∨ ∃ t, v = .list 3 false (intsA xs) (some (t + 1)) ∧ σ.live t = true ∧ xs ≠ []
def layR (fs : List Fld) : AV × St :=
  if 12 < fs.length then (.tup [.mt true, .int .i64 0, .int .i64 11], St.empty) else
  match layS fs 8 [] with
  | none => (.tup [.mt true, .int .i64 0, .int .i64 7], St.empty)
  | some (xs, a) => if a > 256 then (.tup [.mt true, .int .i64 0, .int .i64 11], St.empty) else
    let r := if xs = [] then AV.mt true else .list 3 false (intsA xs) (some 1)
    (.tup [r, .int .i64 a, .int .i64 0], valSt1 r)
theorem Layout_c (d : Nat) (name : ByteArray) (v r b : Bool) (fs : List Fld) : evalF Try.prog CC (d + 5) 14 [encT name v r b fs] St.empty = some (layR fs) := by
  rw [run_14 _ _ _ (by simp)]
  unfold Try.f14 encT
  simp only [Option.getD_some]
  simp only [go_sem, ↓reduceIte, Nat.reduceEqDiff, Nat.reduceAdd, reduceCtorEq, CCT, CCv, CCr, CCk, Nat.reduceBNe, Nat.reduceLeDiff, *]
  refine br_split (fun h => ?_) (fun h => ?_) <;> simp only [go_sem, ↓reduceIte, Nat.reduceEqDiff, Nat.reduceAdd, reduceCtorEq, CCT, CCv, CCr, CCk, Nat.reduceBNe, Nat.reduceLeDiff, *]
  · have : 12 < fs.length := by simp at h; omega
    simp [layR, this]
  · have h12 : ¬ 12 < fs.length := by simp at h; omega
    have grow : ∀ (t : Nat) (xs : List Int) (a : Int), (intsA xs) ++ [AV.int .i64 a] = intsA (xs ++ [a]) := fun t xs a => by simp [intsA]
    refine iter_rule (fun i ρ σ => ρ 15 = .list 41 b (fs.map encF) none ∧ ρ 16 = .int .i64 fs.length ∧ ρ 17 = .int .i64 i ∧ ∃ xs a, GrowOk (ρ 5) xs σ ∧ ρ 6 = .int .i64 a ∧ xs.length = i ∧ layS (fs.drop i) a xs = layS fs 8 []) fs.length ?_ ?_ _ 0 _ _ (Nat.zero_le _) ?_ ?_
    · intro i ρ σ hi ⟨h15, h16, h17, xs, a, hg, h6, hxl, hl⟩ K hK hx hr
      have hlt : decide ((i : Int) < (fs.length : Int)) = true := by simp; omega
      simp only [go_sem, ↓reduceIte, Nat.reduceEqDiff, Nat.reduceAdd, reduceCtorEq, CCT, CCv, CCr, CCk, Nat.reduceBNe, Nat.reduceLeDiff, *]
      have hwrap : IntKind.i64.wrap ((i : Int) + 1) = ((i + 1 : Nat) : Int) := by rw [IntKind.wrap_i64]; omega
      have hsz := fun d => size_c d fs[i]
      have hidx : idxOk (i : Int) (fs.map encF).length = true := by simp [idxOk]; omega
      have hget : (fs.map encF)[(i : Int).toNat]? = some (encF fs[i]) := by simp [hi]
      simp only [go_sem, ↓reduceIte, Nat.reduceEqDiff, Nat.reduceAdd, reduceCtorEq, CCT, CCv, CCr, CCk, Nat.reduceBNe, Nat.reduceLeDiff, *]
      have hdrop : layS (fs.drop i) a xs = if sizeS fs[i] = 0 then none else layS (fs.drop (i + 1)) (IntKind.i64.wrap (a + sizeS fs[i])) (xs ++ [a]) := by
        rw [List.drop_eq_getElem_cons hi]; rfl
      refine br_split (fun h0 => ?_) (fun h0 => ?_) <;> simp only [go_sem, ↓reduceIte, Nat.reduceEqDiff, Nat.reduceAdd, reduceCtorEq, CCT, CCv, CCr, CCk, Nat.reduceBNe, Nat.reduceLeDiff, *]
      · have hz : sizeS fs[i] = 0 := by simpa using h0
        rw [if_pos hz, hl] at hdrop
        simp [layR, h12, hdrop]
      · have hz : ¬ sizeS fs[i] = 0 := by simpa using h0
        rw [if_neg hz, hl] at hdrop
        rcases hg with ⟨rfl, h5⟩ | ⟨t, h5, hlive, hne⟩
        · have hrm : roomy T 3 1 = true := roomy_of (by omega) (by decide)
          simp only [go_sem, ↓reduceIte, Nat.reduceEqDiff, Nat.reduceAdd, reduceCtorEq, CCT, CCv, CCr, CCk, Nat.reduceBNe, Nat.reduceLeDiff, *]
          refine hK _ _ ⟨by simp only [go_sem, ↓reduceIte, Nat.reduceEqDiff, h15], by simp only [go_sem, ↓reduceIte, Nat.reduceEqDiff, h16], ?_, [a], IntKind.i64.wrap (a + sizeS fs[i]), .inr ⟨σ.ntok, ?_, ?_, by simp⟩, by simp only [go_sem, ↓reduceIte, Nat.reduceEqDiff], by simp at hxl ⊢; omega, by rw [hdrop]; rfl⟩
          · simp only [go_sem, ↓reduceIte, Nat.reduceEqDiff, hwrap]
          · simp only [go_sem, ↓reduceIte, Nat.reduceEqDiff]; rfl
          · simp only [go_sem, ↓reduceIte]
        · have hrm : roomy T 3 ((intsA xs).length + 1) = true := roomy_of (by simp [intsA]; omega) (by decide)
          simp only [go_sem, ↓reduceIte, Nat.reduceEqDiff, Nat.reduceAdd, reduceCtorEq, CCT, CCv, CCr, CCk, Nat.reduceBNe, Nat.reduceLeDiff, *]
          refine hK _ _ ⟨by simp only [go_sem, ↓reduceIte, Nat.reduceEqDiff, h15], by simp only [go_sem, ↓reduceIte, Nat.reduceEqDiff, h16], ?_, xs ++ [a], IntKind.i64.wrap (a + sizeS fs[i]), .inr ⟨σ.ntok, ?_, ?_, by simp⟩, by simp only [go_sem, ↓reduceIte, Nat.reduceEqDiff], by simp [hxl], by rw [hdrop]⟩
          · simp only [go_sem, ↓reduceIte, Nat.reduceEqDiff, hwrap]
          · simp only [go_sem, ↓reduceIte, Nat.reduceEqDiff]; simp [intsA]
          · simp only [go_sem, ↓reduceIte]
    · intro ρ σ ⟨h15, h16, h17, xs, a, hg, h6, hxl, hl⟩ K hx hr
      have hlt : decide ((fs.length : Int) < (fs.length : Int)) = false := by simp
      have hl : layS fs 8 [] = some (xs, a) := by rw [← hl, List.drop_length]; rfl
      simp only [go_sem, ↓reduceIte, Nat.reduceEqDiff, Nat.reduceAdd, reduceCtorEq, CCT, CCv, CCr, CCk, Nat.reduceBNe, Nat.reduceLeDiff, *]
      refine br_split (fun h0 => ?_) (fun h0 => ?_) <;> simp only [go_sem, ↓reduceIte, Nat.reduceEqDiff, Nat.reduceAdd, reduceCtorEq, CCT, CCv, CCr, CCk, Nat.reduceBNe, Nat.reduceLeDiff, *]
      · have : a > 256 := by simpa using h0
        simp [layR, h12, hl, this]
      · have : ¬ a > 256 := by simpa using h0
        rcases hg with ⟨rfl, h5⟩ | ⟨t, h5, hlive, hne⟩
        · simp only [go_sem, ↓reduceIte, Nat.reduceEqDiff, Nat.reduceAdd, reduceCtorEq, CCT, CCv, CCr, CCk, Nat.reduceBNe, Nat.reduceLeDiff, *]
          simp [layR, h12, hl, this, valSt1]
        · simp only [go_sem, ↓reduceIte, Nat.reduceEqDiff, Nat.reduceAdd, reduceCtorEq, CCT, CCv, CCr, CCk, Nat.reduceBNe, Nat.reduceLeDiff, *]
          simp [layR, h12, hl, this, hne, valSt1]
    · show fs.length < 0 + 9223372036854775900
      omega
    · simp only [go_sem, ↓reduceIte, Nat.reduceEqDiff, Nat.reduceAdd, reduceCtorEq, CCT, CCv, CCr, CCk, Nat.reduceBNe, Nat.reduceLeDiff, *]
      exact ⟨trivial, by simp, rfl, [], 8, .inl ⟨rfl, rfl⟩, rfl, rfl, rfl⟩
end Go.Proofs.Ytjembadjfiohpaa.Va
