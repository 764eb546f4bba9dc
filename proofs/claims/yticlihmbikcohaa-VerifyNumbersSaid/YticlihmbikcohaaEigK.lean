/- printed out of the texts of another seat by port.py -/
import Derived.Test.YticlihmbikcohaaVaFun
import Derived.Test.YticlihmbikcohaaVaWp
namespace Go.Proofs.Yticlihmbikcohaa.Va
open Go
set_option linter.unusedVariables false
set_option linter.unusedSimpArgs false
set_option maxRecDepth 100000
structure Fld where
  kind : Int
  len : Int
  type : Int
  link : Int
  key : Int
def encF (f : Fld) : AV := .agg 61 [.int .i64 f.kind, .int .i64 f.len, .int .i64 f.type, .int .i64 f.link, .int .i64 f.key]
def sizeS (f : Fld) : Int := if f.kind = 1 then (if f.len < 1 ∨ f.len > 16 then 0 else IntKind.i64.wrap (8 * f.len)) else if f.kind = 2 ∨ f.kind = 5 ∨ f.kind = 6 ∨ f.kind = 7 then 8 else if f.kind = 3 then 16 else if f.kind = 4 then 24 else 0
set_option maxHeartbeats 1000000 in
theorem size_c (d : Nat) (f : Fld) : evalF Try.prog CC (d + 1) 49 [encF f] St.empty = some (.int .i64 (sizeS f), St.empty) := by
  rw [run_49 _ _ _ (by simp)]
  unfold Try.f49 encF
  simp only [Option.getD_some]
  simp only [go_sem, Nat.reduceEqDiff, Nat.reduceAdd, reduceCtorEq, CCT, CCv, CCr, CCk, Nat.reduceBNe, Nat.reduceLeDiff, *]
  repeat' (first | rfl | refine br_split (fun h => ?_) (fun h => ?_) <;> simp only [go_sem, Nat.reduceEqDiff, Nat.reduceAdd, reduceCtorEq, CCT, CCv, CCr, CCk, Nat.reduceBNe, Nat.reduceLeDiff, *] | refine want_split (fun h => ?_) (fun h => ?_) <;> simp only [go_sem, Nat.reduceEqDiff, Nat.reduceAdd, reduceCtorEq, CCT, CCv, CCr, CCk, Nat.reduceBNe, Nat.reduceLeDiff, *])
  all_goals (simp_all [sizeS]; try omega)
def encT (name : ByteArray) (v r b : Bool) (fs : List Fld) : AV := .agg 52 [.str name, .bool v, .bool r, .list 61 b (fs.map encF) none]
def intsA (xs : List Int) : List AV := xs.map (.int .i64)
theorem none_c (d : Nat) (b : Bool) (k : Option Nat) (l : List Int) (hlen : l.length ≤ 1000) : evalF Try.prog CC (d + 5) 70 [.list 3 b (intsA l) k] St.empty = some (.bool (l.all (· == 0)), St.empty) := by
  rw [run_70 _ _ _ (by simp)]
  unfold Try.f70
  simp only [Option.getD_some]
  simp only [go_sem, Nat.reduceEqDiff, Nat.reduceAdd, reduceCtorEq, CCT, CCv, CCr, CCk, Nat.reduceBNe, Nat.reduceLeDiff, *]
  have hll : (intsA l).length = l.length := by simp [intsA]
  refine iter_rule (fun i ρ σ => ρ 5 = .list 3 b (intsA l) k ∧ ρ 6 = .int .i64 l.length ∧ ρ 7 = .int .i64 i ∧ (l.take i).all (· == 0) = true) l.length ?_ ?_ _ 0 _ _ (Nat.zero_le _) ?_ ?_
  · intro i ρ σ hi ⟨h5, h6, h7, hp⟩ K hK hx hr
    have hlt : decide ((i : Int) < (l.length : Int)) = true := by simp; omega
    have hwrap : IntKind.i64.wrap ((i : Int) + 1) = ((i + 1 : Nat) : Int) := by rw [IntKind.wrap_i64]; omega
    have hi1 : idxOk (i : Int) l.length = true := by simp [idxOk]; omega
    have hg1 : (intsA l)[(i : Int).toNat]? = some (.int .i64 l[i]) := by simp [intsA, hi]
    simp only [go_sem, Nat.reduceEqDiff, Nat.reduceAdd, reduceCtorEq, CCT, CCv, CCr, CCk, Nat.reduceBNe, Nat.reduceLeDiff, *]
    refine br_split (fun hd => ?_) (fun hd => ?_) <;> simp only [go_sem, Nat.reduceEqDiff, Nat.reduceAdd, reduceCtorEq, CCT, CCv, CCr, CCk, Nat.reduceBNe, Nat.reduceLeDiff, *]
    · have hne : l.all (· == 0) = false := by
        rw [List.all_eq_false]
        exact ⟨l[i], List.getElem_mem hi, by simpa using hd⟩
      first
        | rw [hne]
        | (simp only [beqI] at hne; rw [hne])
    · refine hK _ _ ⟨by simp only [go_sem, Nat.reduceEqDiff, *], by simp only [go_sem, Nat.reduceEqDiff, *], by simp only [go_sem, Nat.reduceEqDiff, *], ?_⟩
      have hq : l[i] = 0 := by simpa using hd
      rw [List.take_succ_eq_append_getElem hi, List.all_append, hp, hq]
      rfl
  · intro ρ σ ⟨h5, h6, h7, hp⟩ K hx hr
    have hlt : decide ((l.length : Int) < (l.length : Int)) = false := by simp
    rw [List.take_length] at hp
    have hp2 : (l.all fun x => decide (x = 0)) = true := by simpa [beqI] using hp
    simp only [go_sem, Nat.reduceEqDiff, Nat.reduceAdd, reduceCtorEq, CCT, CCv, CCr, CCk, Nat.reduceBNe, Nat.reduceLeDiff, *]
  · show l.length < 0 + 9223372036854775900
    omega
  · simp only [go_sem, Nat.reduceEqDiff, Nat.reduceAdd, reduceCtorEq, CCT, CCv, CCr, CCk, Nat.reduceBNe, Nat.reduceLeDiff, *]
    first
      | exact ⟨trivial, trivial, rfl, rfl⟩
      | exact ⟨rfl, rfl⟩
      | rfl
theorem kind_c (d : Nat) (name : ByteArray) (v r b : Bool) (fs : List Fld) (i : Int) : evalF Try.prog CC (d + 5) 71 [encT name v r b fs, .int .i64 i] St.empty = some (.int .i64 (if h : 0 ≤ i ∧ i < fs.length then (fs[i.toNat]'(by omega)).kind else 0), St.empty) := by
  rw [run_71 _ _ _ (by simp)]
  unfold Try.f71 encT
  simp only [Option.getD_some]
  simp only [go_sem, Nat.reduceEqDiff, Nat.reduceAdd, reduceCtorEq, CCT, CCv, CCr, CCk, Nat.reduceBNe, Nat.reduceLeDiff, *]
  have hll : (fs.map encF).length = fs.length := by simp
  by_cases h0 : 0 ≤ i
  · by_cases h1 : i < fs.length
    · have d0 : decide (i < 0) = false := by simp; omega
      have d1 : decide (i ≥ (fs.length : Int)) = false := by simp; omega
      have hlt : i.toNat < fs.length := by omega
      have hi1 : idxOk i fs.length = true := by simp [idxOk, h0, h1]
      have hg1 : (fs.map encF)[i.toNat]? = some (encF (fs[i.toNat]'hlt)) := by simp [hlt]
      have hg1 : (fs.map encF)[i.toNat]? = some (.agg 61 [.int .i64 (fs[i.toNat]'hlt).kind, .int .i64 (fs[i.toNat]'hlt).len, .int .i64 (fs[i.toNat]'hlt).type, .int .i64 (fs[i.toNat]'hlt).link, .int .i64 (fs[i.toNat]'hlt).key]) := hg1
      rw [dif_pos ⟨h0, h1⟩]
      simp only [go_sem, Nat.reduceEqDiff, Nat.reduceAdd, reduceCtorEq, CCT, CCv, CCr, CCk, Nat.reduceBNe, Nat.reduceLeDiff, hll, d0, d1, hi1, hg1]
    · have d0 : decide (i < 0) = false := by simp; omega
      have d1 : decide (i ≥ (fs.length : Int)) = true := by simp; omega
      rw [dif_neg (by omega)]
      simp only [go_sem, Nat.reduceEqDiff, Nat.reduceAdd, reduceCtorEq, CCT, CCv, CCr, CCk, Nat.reduceBNe, Nat.reduceLeDiff, hll, d0, d1]
  · have d0 : decide (i < 0) = true := by simp; omega
    rw [dif_neg (by omega)]
    simp only [go_sem, Nat.reduceEqDiff, Nat.reduceAdd, reduceCtorEq, CCT, CCv, CCr, CCk, Nat.reduceBNe, Nat.reduceLeDiff, hll, d0]
instance : Inhabited Fld := ⟨⟨0, 0, 0, 0, 0⟩⟩
structure Typ where
  name : ByteArray
  value : Bool
  refs : Bool
  nil : Bool
  fields : List Fld
instance : Inhabited Typ := ⟨⟨ByteArray.empty, false, false, true, []⟩⟩
def encTy (t : Typ) : AV := .agg 52 [.str t.name, .bool t.value, .bool t.refs, .list 61 t.nil (t.fields.map encF) none]
attribute [go_sem] encTy encF
def kindT (fs : List Fld) (i : Int) : Int := if 0 ≤ i ∧ i < fs.length then (at0 fs i).kind else 0
theorem kindT_eq (fs : List Fld) (i : Int) : (if h : 0 ≤ i ∧ i < fs.length then (fs[i.toNat]'(by omega)).kind else 0) = kindT fs i := by
  unfold kindT
  by_cases h : 0 ≤ i ∧ i < fs.length
  · have : i.toNat < fs.length := by omega
    simp [h, at0, this]
  · simp [h]
def toS (l : List Typ) (i : Int) : Int := if 0 ≤ i ∧ i < l.length then (if (at0 l i).value = true then 7 else 0) else 4
def fieldS (l : List Typ) (tv : Bool) (f : Fld) : Int :=
  if f.kind = 1 then (if f.type = 0 ∧ f.link = 0 ∧ f.key = 0 then (if sizeS f = 0 then 4 else 0) else 7)
  else if f.kind = 2 then (if f.len = 0 ∧ f.link = 0 ∧ f.key = 0 then toS l f.type else 7)
  else if f.kind = 3 ∨ f.kind = 4 then (if f.len = 0 ∧ f.type = 0 ∧ f.link = 0 ∧ f.key = 0 ∧ tv = false then 0 else 7)
  else if f.kind = 5 then (if f.len = 0 ∧ f.key = 0 ∧ tv = true then (if toS l f.type ≠ 0 then toS l f.type else if kindT (at0 l f.type).fields f.link = 3 then 0 else 7) else 7)
  else if f.kind = 6 then (if f.len = 0 ∧ tv = true then (if toS l f.type ≠ 0 then toS l f.type else if (at0 l f.type).refs = false ∧ kindT (at0 l f.type).fields f.link = 4 ∧ kindT (at0 l f.type).fields f.key = 1 then 0 else 7) else 7)
  else if f.kind = 7 then (if f.len = 0 ∧ f.type = 0 ∧ f.link = 0 ∧ f.key = 0 ∧ tv = true then 0 else 7)
  else 7
def encTs (b : Bool) (l : List Typ) : AV := .list 52 b (l.map encTy) none
theorem all1 (a : Int) : [a].all (· == 0) = decide (a = 0) := by by_cases h : a = 0 <;> simp [h]
theorem all2 (a b : Int) : [a, b].all (· == 0) = decide (a = 0 ∧ b = 0) := by by_cases h : a = 0 <;> by_cases h2 : b = 0 <;> simp [h, h2]
theorem all3 (a b c : Int) : [a, b, c].all (· == 0) = decide (a = 0 ∧ b = 0 ∧ c = 0) := by by_cases h : a = 0 <;> by_cases h2 : b = 0 <;> by_cases h3 : c = 0 <;> simp [h, h2, h3]
theorem all4 (a b c d : Int) : [a, b, c, d].all (· == 0) = decide (a = 0 ∧ b = 0 ∧ c = 0 ∧ d = 0) := by by_cases h : a = 0 <;> by_cases h2 : b = 0 <;> by_cases h3 : c = 0 <;> by_cases h4 : d = 0 <;> simp [h, h2, h3, h4]
set_option maxHeartbeats 4000000 in
theorem field_c (d : Nat) (bl : Bool) (l : List Typ) (t : Typ) (f : Fld) : evalF Try.prog CC (d + 9) 48 [encTs bl l, encTy t, encF f] St.empty = some (.int .i64 (fieldS l t.value f), St.empty) := by
  have n1 := fun d a => none_c d false none [a] (by simp)
  have n2 := fun d a b => none_c d false none [a, b] (by simp)
  have n3 := fun d a b c => none_c d false none [a, b, c] (by simp)
  have n4 := fun d a b c e => none_c d false none [a, b, c, e] (by simp)
  simp only [intsA, List.map_cons, List.map_nil, all1, all2, all3, all4] at n1 n2 n3 n4
  have hk := fun d name v r b fs i => (kind_c d name v r b fs i).trans (by rw [kindT_eq])
  have hs := fun d k n t l e => size_c d ⟨k, n, t, l, e⟩
  have r46 := fun d a b σ => run_69 d [a, b] σ (by simp)
  unfold Try.f69 at r46
  simp only [Option.getD_some] at r46
  obtain ⟨k, n, ty, li, ke⟩ := f
  obtain ⟨name, tv, tr, tn, fs⟩ := t
  simp only [encT, encF] at hk hs
  rw [run_48 _ _ _ (by simp)]; unfold Try.f48; simp only [Option.getD_some]
  simp only [encTs, encTy, encF]
  simp only [go_sem, *]
  repeat' (first | with_reducible rfl | refine idx_at (by omega) (by omega) ?_; simp only [go_sem, *] | refine br_idx (by omega) (by omega) ?_; try simp only [go_sem, *] | refine bnd_at (by omega) (by omega) ?_; simp only [go_sem, *] | refine br_dec (fun h => ?_) (fun h => ?_) <;> simp only [go_sem, *] | refine want_dect (fun h => ?_) (fun h => ?_) <;> simp only [go_sem, *] | refine want_decf (fun h => ?_) (fun h => ?_) <;> simp only [go_sem, *] | refine br_ndec (fun h => ?_) (fun h => ?_) <;> simp only [go_sem, *] | refine want_ndect (fun h => ?_) (fun h => ?_) <;> simp only [go_sem, *] | refine want_ndecf (fun h => ?_) (fun h => ?_) <;> simp only [go_sem, *] | refine br_split (fun h => ?_) (fun h => ?_) <;> simp only [go_sem, *] | refine want_split (fun h => ?_) (fun h => ?_) <;> simp only [go_sem, *])
  all_goals clear n1 n2 n3 n4 hk hs r46
  all_goals first | (simp_all [fieldS, toS]; done) | (simp_all [fieldS, toS]; omega) | trace_state
def bytesI (l : List Int) : List AV := l.map (.int .u8)
def numL (n : Nat) : List Int := if h : n < 128 then [(n : Int)] else (((n % 128 : Nat) : Int) + 128) :: numL (n / 128)
termination_by n
decreasing_by omega
theorem numL_lt {n : Nat} (h : n < 128) : numL n = [(n : Int)] := by rw [numL, dif_pos h]
theorem numL_ge {n : Nat} (h : ¬ n < 128) : numL n = (((n % 128 : Nat) : Int) + 128) :: numL (n / 128) := by rw [numL, dif_neg h]
theorem numL_len : ∀ (k n : Nat), n < 128 ^ (k + 1) → (numL n).length ≤ k + 1
  | 0, n, h => by rw [numL_lt (by simpa using h)]; simp
  | k + 1, n, h => by
    by_cases hn : n < 128
    · rw [numL_lt hn]; simp
    · rw [numL_ge hn]
      have := numL_len k (n / 128) (by rw [Nat.div_lt_iff_lt_mul (by decide)]; rwa [Nat.pow_succ] at h)
      simp; omega
theorem Number_c (d n : Nat) (hn : n < 2 ^ 64) : evalF Try.prog CC (d + 1) 68 [.int .u64 n] St.empty = some (growR 5 (bytesI (numL n)), valSt (growR 5 (bytesI (numL n)))) := by
  have hlen : (numL n).length ≤ 10 := numL_len 9 n (by omega)
  generalize hX : (some (growR 5 (bytesI (numL n)), valSt (growR 5 (bytesI (numL n)))) : Option (AV × St)) = X
  rw [run_68 _ _ _ (by simp)]; unfold Try.f68; simp only [Option.getD_some]
  simp only [go_sem, *]
  refine iter_fall (fun m ρ σ => ∃ (n' : Nat) (xs : List Int) (kk : Option Nat), ρ 0 = .int .u64 n' ∧ Gw 5 (bytesI xs) σ (ρ 3) kk ∧ xs ++ numL n' = numL n ∧ m = (numL n').length ∧ n' < 2 ^ 64) ?_ _ (numL n).length _ _ (by show _ < 9223372036854775900; omega) ?_
  · rintro m ρ σ ⟨n', xs, kk, h0, hg, hl, rfl, hlt⟩ K hK hx hr
    have hb : xs.length + (numL n').length ≤ 10 := by rw [← List.length_append, hl]; exact hlen
    simp only [go_sem, *]
    refine br_dec (fun h => ?_) (fun h => ?_) <;> simp only [go_sem, *]
    · have hn' : ¬ n' < 128 := by omega
      have e1 : IntKind.u8.wrap (IntKind.u8.wrap ((n' : Int).tmod 128) + 128) = ((n' % 128 : Nat) : Int) + 128 := by rw [IntKind.wrap_u8, IntKind.wrap_u8, Int.tmod_eq_emod_of_nonneg (by omega)]; omega
      have e2 : IntKind.u64.wrap ((n' : Int).tdiv 128) = ((n' / 128 : Nat) : Int) := by rw [IntKind.wrap_u64, Int.tdiv_eq_ediv_of_nonneg (by omega)]; omega
      have hq := numL_ge hn'
      refine gw_app (T := T) (t := 22) hg (ys := [.int .u8 (((n' % 128 : Nat) : Int) + 128)]) (by simp) rfl ?_ ?_ ?_
      · simp only [go_sem, *]
      · exact roomy_of (by simp [bytesI]; omega) (by decide)
      simp only [go_sem, *]
      refine hK (numL (n' / 128)).length _ _ (by rw [hq]; simp) ⟨n' / 128, xs ++ [((n' % 128 : Nat) : Int) + 128], some σ.ntok, by simp only [go_sem, *], ?_, by rw [← hl, hq]; simp, rfl, by omega⟩
      simp only [go_sem, *]
      rw [show bytesI xs ++ [.int .u8 (((n' % 128 : Nat) : Int) + 128)] = bytesI (xs ++ [((n' % 128 : Nat) : Int) + 128]) by simp [bytesI]]
      exact .new (by simp [bytesI])
    · have hn' : n' < 128 := by omega
      have e1 : IntKind.u8.wrap (n' : Int) = n' := by rw [IntKind.wrap_u8]; omega
      refine gw_app (T := T) (t := 22) hg (ys := [.int .u8 (n' : Int)]) (by simp) rfl ?_ ?_ ?_
      · simp only [go_sem, *]
      · exact roomy_of (by simp [bytesI]; omega) (by decide)
      simp only [go_sem, *]
      rw [← hX, ← hl, numL_lt hn']
      simp [growR, bytesI, valSt, valSt1]
  · exact ⟨n, [], none, by simp only [go_sem, *], by simp only [go_sem, *]; exact .nil 5 _, by simp, rfl, hn⟩
theorem name_c (d : Nat) (s : ByteArray) (σ : St) : evalF Try.prog CC (d + 1) 67 [.str s] σ = some (.bool (nameB s), σ) := nr rfl
def strI (s : ByteArray) : List Int := s.data.toList.map fun b => (b.toNat : Int)
theorem bytes_strI (s : ByteArray) : bytesAV s = bytesI (strI s) := by simp [bytesAV, bytesI, strI]
theorem strI_len (s : ByteArray) : (strI s).length = s.size := by simp [strI]
def textL (s : ByteArray) : List Int := numL s.size ++ strI s
theorem Text_c (d : Nat) (s : ByteArray) : evalF Try.prog CC (d + 2) 47 [.str s] St.empty = some (if nameB s = true then (.tup [growR 5 (bytesI (textL s)), .int .i64 0], valSt (growR 5 (bytesI (textL s)))) else (.tup [.mt true, .int .i64 1], St.empty)) := by
  generalize hX : some (if nameB s = true then ((.tup [growR 5 (bytesI (textL s)), .int .i64 0], valSt (growR 5 (bytesI (textL s)))) : AV × St) else (.tup [.mt true, .int .i64 1], St.empty)) = X
  have hn := fun d s σ => name_c d s σ
  rw [run_47 _ _ _ (by simp)]; unfold Try.f47; simp only [Option.getD_some]
  simp only [go_sem, *]
  cases hb : nameB s
  · simp only [go_sem, *]
    rw [← hX, hb]
    rfl
  · have hsz : 0 < s.size ∧ s.size ≤ 16 := by simp [nameB] at hb; omega
    have e1 : IntKind.u64.wrap (s.size : Int) = s.size := by rw [IntKind.wrap_u64]; omega
    have hlen : (numL s.size).length ≤ 1 := numL_len 0 _ (by omega)
    have hs1 : (strI s).length = s.size := strI_len s
    have hne : bytesI (strI s) ≠ [] := by
      intro h
      have := congrArg List.length h
      simp only [bytesI, List.length_map, List.length_nil, hs1] at this
      omega
    have hb2 : (bytesI (numL s.size)).length + (bytesI (strI s)).length ≤ 1000000 := Nat.le_trans (m := 1 + s.size) (by simp only [bytesI, List.length_map]; exact Nat.add_le_add hlen (Nat.le_of_eq hs1)) (by have := hsz.2; exact Nat.le_trans (Nat.add_le_add_left this 1) (by decide))
    simp only [go_sem, *]
    refine call_gw (Number_c d s.size (by omega)) rfl ?_
    intro v σ' kk hg _
    simp only [go_sem, *]
    refine gw_app (T := T) (t := 22) hg hne rfl ?_ ?_ ?_
    · simp only [go_sem, *]
      rw [bytes_strI]
    · exact roomy_of hb2 (by decide)
    simp only [go_sem, *]
    have hx : bytesI (numL s.size) ++ bytesI (strI s) = bytesI (textL s) := by simp [bytesI, textL]
    rw [← hX, hb, hx]
    have hnx : bytesI (textL s) ≠ [] := by rw [← hx]; simp [hne]
    simp [growR, hnx, valSt, valSt1]
/-- what the fields come to -/
def fieldsS (l : List Typ) (tv : Bool) : List Fld → Int → Nat → Nat → Int
  | [], sum, locks, groups => if locks > 1 ∨ groups > 0 ∧ locks = 0 then 9 else if sum > 256 then 11 else 0
  | f :: fs, sum, locks, groups => if fieldS l tv f ≠ 0 then fieldS l tv f else
    fieldsS l tv fs (IntKind.i64.wrap (sum + sizeS f)) (if f.kind = 7 then locks + 1 else locks) (if f.kind = 5 ∨ f.kind = 6 then groups + 1 else groups)
def checkS (l : List Typ) (i : Nat) : Int :=
  let t := at0 l i
  if nameB t.name = false ∨ (∃ u ∈ l.take i, u.name.toList = t.name.toList) then 3
  else if 12 < t.fields.length then 11
  else if t.value = true ∧ t.refs = true then 7
  else fieldsS l t.value t.fields 8 0 0
instance (l : List Typ) (i : Nat) : Decidable (∃ u ∈ l.take i, u.name.toList = (at0 l i).name.toList) := inferInstance
theorem fieldsS_step (l : List Typ) (tv : Bool) (fs : List Fld) (i : Nat) (hi : i < fs.length) (sum : Int) (locks groups : Nat) : fieldsS l tv (fs.drop i) sum locks groups = if fieldS l tv (at0 fs (i : Int)) ≠ 0 then fieldS l tv (at0 fs (i : Int)) else
    fieldsS l tv (fs.drop (i + 1)) (IntKind.i64.wrap (sum + sizeS (at0 fs (i : Int)))) (if (at0 fs (i : Int)).kind = 7 then locks + 1 else locks) (if (at0 fs (i : Int)).kind = 5 ∨ (at0 fs (i : Int)).kind = 6 then groups + 1 else groups) := by
  rw [List.drop_eq_getElem_cons hi, at0_nat hi]; rfl
set_option maxHeartbeats 4000000 in
theorem check_c (d : Nat) (bl : Bool) (l : List Typ) (i : Nat) (hi : i < l.length) (hl : l.length ≤ 1000000) : evalF Try.prog CC (d + 12) 28 [encTs bl l, .int .i64 i] St.empty = some (.int .i64 (checkS l i), St.empty) := by
  generalize hX : (some (AV.int .i64 (checkS l i), St.empty) : Option (AV × St)) = X
  unfold checkS at hX
  simp only [at0_nat hi] at hX
  have hTa : at0 l (i : Int) = l[i] := at0_nat hi
  have hfc := fun d f => field_c d bl l l[i] f
  have hsz := fun d k n t l e => size_c d ⟨k, n, t, l, e⟩
  have htx := Text_c (d + 9) l[i].name
  generalize htt : l[i] = t at *
  obtain ⟨name, tv, tr, tn, fs⟩ := t
  simp only at hX htx
  simp only [encF, encTy, encTs] at hfc hsz
  rw [run_28 _ _ _ (by simp)]; unfold Try.f28; simp only [Option.getD_some]
  simp only [encTs, encTy, encF]
  simp only [go_sem, *]
  refine idx_at (by omega) (by omega) ?_
  rw [hTa]
  cases hb : nameB name
  case' false =>
    rw [hb] at htx
    simp only [Bool.false_eq_true, if_false] at htx
    simp only [go_sem, *]
  case' true =>
    rw [hb] at htx
    simp only [if_true] at htx
    simp only [go_sem, encTy]
    refine call_gw_tup htx rfl rfl ?_
    intro v σ' kk hg hσ
    rcases hσ with ⟨rfl, _⟩ | ⟨rfl, _⟩ <;> simp only [go_sem, encTy]
  all_goals
    refine slice_hi ty_48 (by omega) (by omega) ?_
    simp only [go_sem, *]
    refine iter_rule (fun j ρ σ => ρ 0 = .list 52 bl (l.map encTy) none ∧ ρ 5 = .ptr 52 0 [0] ∧ ρ 28 = .list 52 bl ((l.take i).map encTy) none ∧ ρ 29 = .int .i64 i ∧ ρ 30 = .int .i64 j ∧ 0 < σ.next ∧ σ.obj 0 = some (.cells 52 [.agg 52 [.str name, .bool tv, .bool tr, .list 61 tn (fs.map encF) none]]) ∧
      ∃ e, ρ 7 = .int .i64 e ∧ (e ≠ 0 ↔ (nameB name = false ∨ ∃ u ∈ (l.take i).take j, u.name.toList = name.toList))) i ?_ ?_ _ 0 _ _ (Nat.zero_le _) ?_ ?_
    · rintro j ρ σ hj ⟨h0, h5, h28, h29, h30, hnx, hob, e, h7, he⟩ K hK hx hr
      have hlen : (l.take i).length = i := by simp; omega
      have hlt : (j : Int) < (i : Int) := by omega
      have hwrap : IntKind.i64.wrap ((j : Int) + 1) = ((j + 1 : Nat) : Int) := by rw [IntKind.wrap_i64]; omega
      have hz : ¬ 0 = σ.next := by omega
      have hmem : ∀ (p : Prop), ((nameB name = false ∨ ∃ u ∈ (l.take i).take (j + 1), u.name.toList = name.toList) ↔ ((nameB name = false ∨ ∃ u ∈ (l.take i).take j, u.name.toList = name.toList) ∨ (at0 (l.take i) (j : Int)).name.toList = name.toList)) := by
        intro _
        rw [List.take_succ_eq_append_getElem (by omega), at0_nat (by omega)]
        simp only [List.mem_append, List.mem_singleton]
        constructor
        · rintro (h | ⟨u, h | rfl, hu⟩)
          · exact .inl (.inl h)
          · exact .inl (.inr ⟨u, h, hu⟩)
          · exact .inr hu
        · rintro ((h | ⟨u, h, hu⟩) | h)
          · exact .inl h
          · exact .inr ⟨u, .inl h, hu⟩
          · exact .inr ⟨_, .inr rfl, h⟩
      simp only [go_sem, *]
      refine br_idx (by omega) (by omega) ?_
      refine bnd_at (by omega) (by omega) ?_
      clear htx
      generalize hu : at0 (l.take i) (j : Int) = u at hmem ⊢
      obtain ⟨un, uv, ur, ub, uf⟩ := u
      simp only at hmem
      simp only [go_sem, encTy, beqL, h0, h5, h28, h29, h30, hnx, hob, h7, hwrap, hz]
      refine br_dec (fun h => ?_) (fun h => ?_)
      · simp only [go_sem, h0, h5, h28, h29, h30, hnx, hob, h7, hwrap, hz]
        refine hK _ _ ⟨by simp only [go_sem, h0], by simp only [go_sem, h5], by simp only [go_sem, h28], by simp only [go_sem, h29], by simp only [go_sem, h30, hwrap], by simp only [go_sem, hnx]; try omega, by simp only [go_sem, hob, hz], 3, by simp only [go_sem, h7], ?_⟩
        rw [hmem True]
        exact ⟨fun _ => .inr h, fun _ => by decide⟩
      · simp only [go_sem, h0, h5, h28, h29, h30, hnx, hob, h7, hwrap, hz]
        refine hK _ _ ⟨by simp only [go_sem, h0], by simp only [go_sem, h5], by simp only [go_sem, h28], by simp only [go_sem, h29], by simp only [go_sem, h30, hwrap], by simp only [go_sem, hnx]; try omega, by simp only [go_sem, hob, hz], e, by simp only [go_sem, h7], ?_⟩
        rw [hmem True, he]
        exact ⟨.inl, fun hh => hh.resolve_right h⟩
    · rintro ρ σ ⟨h0, h5, h28, h29, h30, hnx, hob, e, h7, he⟩ K hx hr
      have hz : ¬ 0 = σ.next := by omega
      have hlt : ¬ (i : Int) < (i : Int) := by omega
      rw [List.take_take, Nat.min_self] at he
      clear htx
      simp only [go_sem, *]
      refine br_ndec (fun h => ?_) (fun h => ?_)
      · simp only [go_sem, *]
        rw [← hX, if_pos (he.1 h)]
      have hno : ¬ (nameB name = false ∨ ∃ u, u ∈ List.take i l ∧ u.name.toList = name.toList) := fun hh => he.2 hh h
      rw [if_neg hno] at hX
      simp only [go_sem, *]
      refine br_dec (fun h2 => ?_) (fun h2 => ?_)
      · simp only [go_sem, *]
        rw [← hX, if_pos (by omega)]
      rw [if_neg (by omega)] at hX
      have hvr : (tv = true ∧ tr = true) ∨ ¬ (tv = true ∧ tr = true) := Decidable.em _
      rcases hvr with hvr | hvr
      · obtain ⟨rfl, rfl⟩ := hvr
        simp only [go_sem, *]
        rw [← hX]; rfl
      rw [if_neg hvr] at hX
      simp only [go_sem, *]
      refine want_split (fun hv => ?_) (fun hv => ?_) <;> simp only [go_sem, *]
      case' refine_1 =>
        have htr : tr = false := by cases tr <;> simp_all
        simp only [go_sem, *]
      all_goals
        refine iter_rule (fun j ρ σ => ρ 0 = .list 52 bl (l.map encTy) none ∧ ρ 5 = .ptr 52 0 [0] ∧ ρ 56 = .list 61 tn (fs.map encF) none ∧ ρ 57 = .int .i64 fs.length ∧ ρ 58 = .int .i64 j ∧ 0 < σ.next ∧ σ.obj 0 = some (.cells 52 [.agg 52 [.str name, .bool tv, .bool tr, .list 61 tn (fs.map encF) none]]) ∧
          ∃ (sum : Int) (locks groups : Nat), ρ 10 = .int .i64 sum ∧ ρ 11 = .int .i64 locks ∧ ρ 12 = .int .i64 groups ∧ locks ≤ j ∧ groups ≤ j ∧ fieldsS l tv (fs.drop j) sum locks groups = fieldsS l tv fs 8 0 0) fs.length ?_ ?_ _ 0 _ _ (Nat.zero_le _) ?_ ?_
        · rintro j ρ σ hj ⟨h0, h5, h56, h57, h58, hnx, hob, sum, locks, groups, h10, h11, h12, hlk, hgp, hfs⟩ K hK hx hr
          have hlt : (j : Int) < (fs.length : Int) := by omega
          have hwrap : IntKind.i64.wrap ((j : Int) + 1) = ((j + 1 : Nat) : Int) := by rw [IntKind.wrap_i64]; omega
          have hwl : IntKind.i64.wrap ((locks : Int) + 1) = ((locks + 1 : Nat) : Int) := by rw [IntKind.wrap_i64]; omega
          have hwg : IntKind.i64.wrap ((groups : Int) + 1) = ((groups + 1 : Nat) : Int) := by rw [IntKind.wrap_i64]; omega
          have hz : ¬ 0 = σ.next := by omega
          have hst := fieldsS_step l tv fs j hj sum locks groups
          simp only [go_sem, *]
          refine br_idx (by omega) (by omega) ?_
          refine bnd_at (by omega) (by omega) ?_
          generalize hf : at0 fs (j : Int) = f at hst ⊢
          obtain ⟨k, n, ty, li, ke⟩ := f
          simp only at hst
          rw [hfs] at hst
          have hff := fun d => hfc d ⟨k, n, ty, li, ke⟩
          clear hfc he
          simp only [go_sem, encF, hff, hsz, h0, h5, h56, h57, h58, hnx, hob, h10, h11, h12, hz, hwrap, hwl, hwg]
          refine br_ndec (fun hq => ?_) (fun hq => ?_)
          · rw [if_pos hq] at hst
            simp only [go_sem, encF, hff, hsz, h0, h5, h56, h57, h58, hnx, hob, h10, h11, h12, hz, hwrap, hwl, hwg, hr]
            rw [← hX, hst]
          · rw [if_neg (by simpa using hq)] at hst
            simp only [go_sem, encF, hff, hsz, h0, h5, h56, h57, h58, hnx, hob, h10, h11, h12, hz, hwrap, hwl, hwg]
            by_cases k7 : k = 7
            · subst k7
              simp only [go_sem, h0, h5, h56, h57, h58, hnx, hob, h10, h11, h12, hz, hwrap, hwl, hwg]
              refine hK _ _ ⟨by (try simp only [go_sem, Int.toNat_natCast, List.length_take, *]) <;> first | done | rfl | omega | (simp <;> omega), by (try simp only [go_sem, Int.toNat_natCast, List.length_take, *]) <;> first | done | rfl | omega | (simp <;> omega), by (try simp only [go_sem, Int.toNat_natCast, List.length_take, *]) <;> first | done | rfl | omega | (simp <;> omega), by (try simp only [go_sem, Int.toNat_natCast, List.length_take, *]) <;> first | done | rfl | omega | (simp <;> omega), by (try simp only [go_sem, Int.toNat_natCast, List.length_take, *]) <;> first | done | rfl | omega | (simp <;> omega), by (try simp only [go_sem, Int.toNat_natCast, List.length_take, *]) <;> first | done | rfl | omega | (simp <;> omega), by (try simp only [go_sem, Int.toNat_natCast, List.length_take, *]) <;> first | done | rfl | omega | (simp <;> omega), _, locks + 1, groups, by (try simp only [go_sem, Int.toNat_natCast, List.length_take, *]) <;> first | done | rfl | omega | (simp <;> omega), by (try simp only [go_sem, Int.toNat_natCast, List.length_take, *]) <;> first | done | rfl | omega | (simp <;> omega), by (try simp only [go_sem, Int.toNat_natCast, List.length_take, *]) <;> first | done | rfl | omega | (simp <;> omega), by omega, by omega, by rw [hst]; rfl⟩
            · by_cases k5 : k = 5
              · subst k5
                simp only [go_sem, h0, h5, h56, h57, h58, hnx, hob, h10, h11, h12, hz, hwrap, hwl, hwg]
                refine hK _ _ ⟨by (try simp only [go_sem, Int.toNat_natCast, List.length_take, *]) <;> first | done | rfl | omega | (simp <;> omega), by (try simp only [go_sem, Int.toNat_natCast, List.length_take, *]) <;> first | done | rfl | omega | (simp <;> omega), by (try simp only [go_sem, Int.toNat_natCast, List.length_take, *]) <;> first | done | rfl | omega | (simp <;> omega), by (try simp only [go_sem, Int.toNat_natCast, List.length_take, *]) <;> first | done | rfl | omega | (simp <;> omega), by (try simp only [go_sem, Int.toNat_natCast, List.length_take, *]) <;> first | done | rfl | omega | (simp <;> omega), by (try simp only [go_sem, Int.toNat_natCast, List.length_take, *]) <;> first | done | rfl | omega | (simp <;> omega), by (try simp only [go_sem, Int.toNat_natCast, List.length_take, *]) <;> first | done | rfl | omega | (simp <;> omega), _, locks, groups + 1, by (try simp only [go_sem, Int.toNat_natCast, List.length_take, *]) <;> first | done | rfl | omega | (simp <;> omega), by (try simp only [go_sem, Int.toNat_natCast, List.length_take, *]) <;> first | done | rfl | omega | (simp <;> omega), by (try simp only [go_sem, Int.toNat_natCast, List.length_take, *]) <;> first | done | rfl | omega | (simp <;> omega), by omega, by omega, by rw [hst]; rfl⟩
              · by_cases k6 : k = 6
                · subst k6
                  simp only [go_sem, h0, h5, h56, h57, h58, hnx, hob, h10, h11, h12, hz, hwrap, hwl, hwg]
                  refine hK _ _ ⟨by (try simp only [go_sem, Int.toNat_natCast, List.length_take, *]) <;> first | done | rfl | omega | (simp <;> omega), by (try simp only [go_sem, Int.toNat_natCast, List.length_take, *]) <;> first | done | rfl | omega | (simp <;> omega), by (try simp only [go_sem, Int.toNat_natCast, List.length_take, *]) <;> first | done | rfl | omega | (simp <;> omega), by (try simp only [go_sem, Int.toNat_natCast, List.length_take, *]) <;> first | done | rfl | omega | (simp <;> omega), by (try simp only [go_sem, Int.toNat_natCast, List.length_take, *]) <;> first | done | rfl | omega | (simp <;> omega), by (try simp only [go_sem, Int.toNat_natCast, List.length_take, *]) <;> first | done | rfl | omega | (simp <;> omega), by (try simp only [go_sem, Int.toNat_natCast, List.length_take, *]) <;> first | done | rfl | omega | (simp <;> omega), _, locks, groups + 1, by (try simp only [go_sem, Int.toNat_natCast, List.length_take, *]) <;> first | done | rfl | omega | (simp <;> omega), by (try simp only [go_sem, Int.toNat_natCast, List.length_take, *]) <;> first | done | rfl | omega | (simp <;> omega), by (try simp only [go_sem, Int.toNat_natCast, List.length_take, *]) <;> first | done | rfl | omega | (simp <;> omega), by omega, by omega, by rw [hst]; rfl⟩
                · simp only [go_sem, h0, h5, h56, h57, h58, hnx, hob, h10, h11, h12, hz, hwrap, hwl, hwg, k5, k6, k7]
                  refine hK _ _ ⟨by (try simp only [go_sem, Int.toNat_natCast, List.length_take, *]) <;> first | done | rfl | omega | (simp <;> omega), by (try simp only [go_sem, Int.toNat_natCast, List.length_take, *]) <;> first | done | rfl | omega | (simp <;> omega), by (try simp only [go_sem, Int.toNat_natCast, List.length_take, *]) <;> first | done | rfl | omega | (simp <;> omega), by (try simp only [go_sem, Int.toNat_natCast, List.length_take, *]) <;> first | done | rfl | omega | (simp <;> omega), by (try simp only [go_sem, Int.toNat_natCast, List.length_take, *]) <;> first | done | rfl | omega | (simp <;> omega), by (try simp only [go_sem, Int.toNat_natCast, List.length_take, *]) <;> first | done | rfl | omega | (simp <;> omega), by (try simp only [go_sem, Int.toNat_natCast, List.length_take, *]) <;> first | done | rfl | omega | (simp <;> omega), _, locks, groups, by (try simp only [go_sem, Int.toNat_natCast, List.length_take, *]) <;> first | done | rfl | omega | (simp <;> omega), by (try simp only [go_sem, Int.toNat_natCast, List.length_take, *]) <;> first | done | rfl | omega | (simp <;> omega), by (try simp only [go_sem, Int.toNat_natCast, List.length_take, *]) <;> first | done | rfl | omega | (simp <;> omega), by omega, by omega, by rw [hst]; simp [k5, k6, k7]⟩
        · clear hr hx
          rintro ρ σ ⟨h0, h5, h56, h57, h58, hnx, hob, sum, locks, groups, h10, h11, h12, hlk, hgp, hfs⟩ K hx hr
          have hlt : ¬ (fs.length : Int) < (fs.length : Int) := by omega
          rw [List.drop_length] at hfs
          simp only [fieldsS] at hfs
          clear he
          simp only [go_sem, *]
          repeat' (first | with_reducible rfl | refine idx_at (by omega) (by omega) ?_; simp only [go_sem, *] | refine br_idx (by omega) (by omega) ?_; try simp only [go_sem, *] | refine bnd_at (by omega) (by omega) ?_; simp only [go_sem, *] | refine br_dec (fun h => ?_) (fun h => ?_) <;> simp only [go_sem, *] | refine want_dect (fun h => ?_) (fun h => ?_) <;> simp only [go_sem, *] | refine want_decf (fun h => ?_) (fun h => ?_) <;> simp only [go_sem, *] | refine br_ndec (fun h => ?_) (fun h => ?_) <;> simp only [go_sem, *] | refine want_ndect (fun h => ?_) (fun h => ?_) <;> simp only [go_sem, *] | refine want_ndecf (fun h => ?_) (fun h => ?_) <;> simp only [go_sem, *] | refine br_split (fun h => ?_) (fun h => ?_) <;> simp only [go_sem, *] | refine want_split (fun h => ?_) (fun h => ?_) <;> simp only [go_sem, *])
          all_goals first | (rw [if_pos (by omega)] at hfs; rw [← hX, ← hfs]; done) | (rw [← hX, ← hfs]; simp_all; done) | (rw [← hX, ← hfs]; simp_all; omega) | trace_state
        · show fs.length < 0 + 9223372036854775900
          omega
        · exact ⟨by (try simp only [go_sem, Int.toNat_natCast, List.length_take, *]) <;> first | done | rfl | omega | (simp <;> omega), by (try simp only [go_sem, Int.toNat_natCast, List.length_take, *]) <;> first | done | rfl | omega | (simp <;> omega), by (try simp only [go_sem, Int.toNat_natCast, List.length_take, *]) <;> first | done | rfl | omega | (simp <;> omega), by (try simp only [go_sem, Int.toNat_natCast, List.length_take, *]) <;> first | done | rfl | omega | (simp <;> omega), by (try simp only [go_sem, Int.toNat_natCast, List.length_take, *]) <;> first | done | rfl | omega | (simp <;> omega), by (try simp only [go_sem, Int.toNat_natCast, List.length_take, *]) <;> first | done | rfl | omega | (simp <;> omega), by (try simp only [go_sem, Int.toNat_natCast, List.length_take, *]) <;> first | done | rfl | omega | (simp <;> omega), 8, 0, 0, by (try simp only [go_sem, Int.toNat_natCast, List.length_take, *]) <;> first | done | rfl | omega | (simp <;> omega), by (try simp only [go_sem, Int.toNat_natCast, List.length_take, *]) <;> first | done | rfl | omega | (simp <;> omega), by (try simp only [go_sem, Int.toNat_natCast, List.length_take, *]) <;> first | done | rfl | omega | (simp <;> omega), Nat.le_refl _, Nat.le_refl _, rfl⟩
    · show i < 0 + 9223372036854775900
      omega
    · clear htx
      exact ⟨by (try simp only [go_sem, Int.toNat_natCast, List.length_take, *]) <;> first | done | rfl | omega | (simp <;> omega), by (try simp only [go_sem, Int.toNat_natCast, List.length_take, *]) <;> first | done | rfl | omega | (simp <;> omega), by (try simp only [go_sem, Int.toNat_natCast, List.length_take, *]) <;> first | done | rfl | omega | (simp <;> omega), by (try simp only [go_sem, Int.toNat_natCast, List.length_take, *]) <;> first | done | rfl | omega | (simp <;> omega), by (try simp only [go_sem, Int.toNat_natCast, List.length_take, *]) <;> first | done | rfl | omega | (simp <;> omega), by (try simp only [go_sem, Int.toNat_natCast, List.length_take, *]) <;> first | done | rfl | omega | (simp <;> omega), by (try simp only [go_sem, Int.toNat_natCast, List.length_take, *]) <;> first | done | rfl | omega | (simp <;> omega), _, by (try simp only [go_sem, Int.toNat_natCast, List.length_take, *]) <;> first | done | rfl | omega | (simp <;> omega), by simp [hb]⟩
theorem nodup_len : ∀ (N : Nat) (l : List Int), l.Nodup → (∀ x ∈ l, 0 ≤ x ∧ x < (N : Int)) → l.length ≤ N
  | 0, l, _, h => by
    cases l with
    | nil => simp
    | cons a l => have := h a (by simp); omega
  | N + 1, l, hn, h => by
    have hr := nodup_len N (l.erase (N : Int)) (hn.erase _) (fun x hx => by
      obtain ⟨h1, h2⟩ := (hn.mem_erase_iff).1 hx
      have := h x h2
      omega)
    rw [List.length_erase] at hr
    split at hr <;> omega
/-- A type's pointer leads to a type. -/
def Edge (l : List Typ) (a y : Int) : Prop := ∃ f ∈ (at0 l a).fields, f.kind = 2 ∧ f.type = y
inductive Rch (l : List Typ) : Int → Int → Prop
  | one {a b : Int} : Edge l a b → Rch l a b
  | more {a b c : Int} : Edge l a b → Rch l b c → Rch l a c
def seenM (s : List Int) : List (AV × AV) := (s.map fun x => (x, AV.bool true)).map (entI .i64)
theorem findI_seen (k : Int) : ∀ (s : List Int) (i : Nat), (lookRes T 4 false (findI k (s.map fun x => (x, AV.bool true)) i)) = .bool (decide (k ∈ s))
  | [], i => by simp [findI, lookRes]; rfl
  | a :: s, i => by
    simp only [List.map_cons, findI]
    by_cases h : k = a
    · simp [h, lookRes]
    · rw [if_neg h, findI_seen k s (i + 1)]
      simp [h]
theorem look_seen {σ : St} {m : Nat} {s : List Int} (ho : σ.obj m = some (.map 3 4 (seenM s))) (k : Int) : @aLookup T ⟨σ⟩ 87 (.map m) (.int .i64 k) false = some (.bool (decide (k ∈ s))) := by
  rw [look_int (kd := .i64) (vt := 4) (kt := 3) (l := s.map fun x => (x, AV.bool true)) ty_87 ty_3 rfl ho, findI_seen]
theorem put_seen {σ : St} {m : Nat} {s : List Int} (ho : σ.obj m = some (.map 3 4 (seenM s))) (k : Int) (hk : k ∉ s) : @aMapPut T ⟨σ⟩ 87 (.map m) (.int .i64 k) (.bool true) = some (σ.set m (.map 3 4 (seenM (s ++ [k])))) := by
  rw [put_int (kd := .i64) (vt := 4) (kt := 3) (l := s.map fun x => (x, AV.bool true)) ty_87 ty_3 ho k (by simp [fits, ty_4])]
  have : findI k (s.map fun x => (x, AV.bool true)) 0 = none := by
    rw [findI_none]
    intro e he
    obtain ⟨x, hx, rfl⟩ := List.mem_map.1 he
    intro h; subst h; exact hk hx
  simp only [putI, this, seenM, List.map_append, List.map_cons, List.map_nil]
theorem wlook {R : Type} {P : Option R → Prop} {σ : St} {m : Nat} {s : List Int} {k : Int} {K : AV → Option R} (ho : σ.obj m = some (.map 3 4 (seenM s))) (h : Wp P (K (.bool (decide (k ∈ s))))) : Wp P (@bnd AV R (@aLookup T ⟨σ⟩ 87 (.map m) (.int .i64 k) false) ⟨K⟩) := by
  rw [look_seen ho]; exact h
theorem wput {R : Type} {P : Option R → Prop} {σ : St} {m : Nat} {s : List Int} {k : Int} {K : St → Option R} (ho : σ.obj m = some (.map 3 4 (seenM s))) (hk : k ∉ s) (h : Wp P (K (σ.set m (.map 3 4 (seenM (s ++ [k])))))) : Wp P (@bnd St R (@aMapPut T ⟨σ⟩ 87 (.map m) (.int .i64 k) (.bool true)) ⟨K⟩) := by
  rw [put_seen ho k hk]; exact h
structure LPost (l : List Typ) (frm to : Int) (m : Nat) (seen : List Int) (b : Bool) (seen' : List Int) (σ' : St) : Prop where
  obj : σ'.obj m = some (.map 3 4 (seenM seen'))
  lt : m < σ'.next
  nodup : seen'.Nodup
  rng : ∀ x ∈ seen', 0 ≤ x ∧ x < (l.length : Int)
  sub : ∀ x ∈ seen, x ∈ seen'
  len : seen.length ≤ seen'.length
  yes : b = true → Rch l frm to
  no : b = false → to ∉ seen' ∧ (∀ y, Edge l frm y → y ∈ seen') ∧ ∀ x ∈ seen', x ∉ seen → ∀ y, Edge l x y → y ∈ seen'
theorem leads_c (bl : Bool) (l : List Typ) (to : Int) (hl : l.length ≤ 1000000) (hfl : ∀ t ∈ l, t.fields.length ≤ 1000000) (hok : ∀ t ∈ l, ∀ f ∈ t.fields, f.kind = 2 → 0 ≤ f.type ∧ f.type < (l.length : Int)) :
    ∀ (n d : Nat) (σ : St) (frm : Int) (seen : List Int) (m : Nat), l.length ≤ seen.length + n → seen.Nodup → (∀ x ∈ seen, 0 ≤ x ∧ x < (l.length : Int)) → 0 ≤ frm → frm < (l.length : Int) → to ∉ seen → σ.obj m = some (.map 3 4 (seenM seen)) → m < σ.next →
      Sat (fun p => ∃ b seen', p.1 = .bool b ∧ LPost l frm to m seen b seen' p.2) (evalF Try.prog CC (d + 2 + n) 29 [encTs bl l, .int .i64 frm, .int .i64 to, .map m] σ) := by
  intro n d σ frm seen m hn hnd hrg hf0 hf1 hto hob hm
  have hmem := at0_mem hf0 hf1
  have hfs := hfl _ hmem
  have hoks := hok _ hmem
  have hE : ∀ y, Edge l frm y ↔ ∃ f ∈ (at0 l frm).fields, f.kind = 2 ∧ f.type = y := fun y => Iff.rfl
  generalize ht : at0 l frm = t at hfs hoks hE
  obtain ⟨name, tv, tr, tb, fs⟩ := t
  simp only at hfs hoks hE
  rw [show d + 2 + n = (d + 1 + n) + 1 by omega]
  refine Sat.go ?_
  rw [run_29 _ _ _ (by simp)]; unfold Try.f29; simp only [Option.getD_some]
  simp only [encTs]
  simp only [go_sem, *]
  refine W.idx_at (by omega) (by omega) ?_
  rw [ht]
  simp only [go_sem, encTy]
  refine W.iter_rule (fun j ρ s => ρ 0 = .list 52 bl (l.map encTy) none ∧ ρ 2 = .int .i64 to ∧ ρ 3 = .map m ∧ ρ 15 = .list 61 tb (fs.map encF) none ∧ ρ 16 = .int .i64 fs.length ∧ ρ 17 = .int .i64 j ∧
    ∃ cur : List Int, s.obj m = some (.map 3 4 (seenM cur)) ∧ m < s.next ∧ cur.Nodup ∧ (∀ x ∈ cur, 0 ≤ x ∧ x < (l.length : Int)) ∧ (∀ x ∈ seen, x ∈ cur) ∧ seen.length ≤ cur.length ∧ to ∉ cur ∧
      (∀ f ∈ fs.take j, f.kind = 2 → f.type ∈ cur) ∧ (∀ x ∈ cur, x ∉ seen → ∀ y, Edge l x y → y ∈ cur)) fs.length ?_ ?_ _ 0 _ _ (Nat.zero_le _) ?_ ?_
  · rintro j ρ s hj ⟨h0, h2, h3, h15, h16, h17, cur, co, cm, cn, cr, cs, cl, ct, cf, cc⟩ K hK hx hr
    have hlt : (j : Int) < (fs.length : Int) := by omega
    have hwrap : IntKind.i64.wrap ((j : Int) + 1) = ((j + 1 : Nat) : Int) := by rw [IntKind.wrap_i64]; omega
    have hz : ¬ m = s.next := by omega
    have hz2 : ¬ s.next = m := by omega
    have hnext : ∀ (c2 : List Int), (∀ x ∈ cur, x ∈ c2) → ((at0 fs (j : Int)).kind = 2 → (at0 fs (j : Int)).type ∈ c2) → ∀ f ∈ fs.take (j + 1), f.kind = 2 → f.type ∈ c2 := by
      intro c2 h1 h2 f hf hk
      rw [List.take_succ_eq_append_getElem hj] at hf
      rcases List.mem_append.1 hf with hf | hf
      · exact h1 _ (cf f hf hk)
      · simp only [List.mem_singleton] at hf
        rw [at0_nat hj] at h2
        subst hf; exact h2 hk
    have hfm : at0 fs (j : Int) ∈ fs := at0_mem (by omega) hlt
    simp only [go_sem, h0, h2, h3, h15, h16, h17, hlt]
    refine W.idx_at (by omega) (by omega) ?_
    generalize hf : at0 fs (j : Int) = f at hnext hfm ⊢
    obtain ⟨k, n', ty, li, ke⟩ := f
    simp only at hnext
    simp only [go_sem, encF, h0, h2, h3, h15, h16, h17, hz, hz2]
    by_cases hk : k = 2
    · subst hk
      have h0x := (hoks _ hfm rfl)
      simp only at h0x
      simp only [go_sem, h0, h2, h3, h15, h16, h17, hz, hz2]
      refine wlook (s := cur) (by simp only [go_sem, co, hz]) ?_
      simp only [go_sem, h0, h2, h3, h15, h16, h17, hz, hz2]
      refine W.br_dec (fun hin => ?_) (fun hin => ?_)
      · simp only [go_sem, h0, h2, h3, h15, h16, h17, hz, hz2, hwrap]
        refine hK _ _ ?_
        refine ⟨by (try simp only [go_sem, Int.toNat_natCast, List.length_take, *]) <;> first | done | rfl | omega | (simp <;> omega), by (try simp only [go_sem, Int.toNat_natCast, List.length_take, *]) <;> first | done | rfl | omega | (simp <;> omega), by (try simp only [go_sem, Int.toNat_natCast, List.length_take, *]) <;> first | done | rfl | omega | (simp <;> omega), by (try simp only [go_sem, Int.toNat_natCast, List.length_take, *]) <;> first | done | rfl | omega | (simp <;> omega), by (try simp only [go_sem, Int.toNat_natCast, List.length_take, *]) <;> first | done | rfl | omega | (simp <;> omega), by (try simp only [go_sem, Int.toNat_natCast, List.length_take, *]) <;> first | done | rfl | omega | (simp <;> omega), cur, by (try simp only [go_sem, Int.toNat_natCast, List.length_take, *]) <;> first | done | rfl | omega | (simp <;> omega), by (try simp only [go_sem, Int.toNat_natCast, List.length_take, *]) <;> first | done | rfl | omega | (simp <;> omega), cn, cr, cs, cl, ct, hnext cur (fun x hx => hx) (fun _ => hin), cc⟩
      · skip
        have hnd1 : (cur ++ [ty]).Nodup := by
          rw [List.nodup_append]
          refine ⟨cn, by simp, fun a ha b hb => ?_⟩
          simp only [List.mem_singleton] at hb
          subst hb
          rintro rfl; exact hin ha
        have hrg1 : ∀ x ∈ cur ++ [ty], 0 ≤ x ∧ x < (l.length : Int) := by
          intro x hx
          rcases List.mem_append.1 hx with hx | hx
          · exact cr x hx
          · simp only [List.mem_singleton] at hx; subst hx; exact h0x
        have hedge : Edge l frm ty := (hE ty).2 ⟨_, hfm, rfl, rfl⟩
        have hle := nodup_len _ _ hnd1 hrg1
        rw [List.length_append, List.length_singleton] at hle
        simp only [go_sem, h0, h2, h3, h15, h16, h17, hz, hz2]
        refine wput (s := cur) (by simp only [go_sem, co, hz]) hin ?_
        simp only [go_sem, h0, h2, h3, h15, h16, h17, hz, hz2]
        refine W.want_decf (fun hq => ?_) (fun hq => ?_)
        · simp only [go_sem, hq, hr, h0, h2, h3, h15, h16, h17, hz, hz2]
          refine wp_some ?_
          refine ⟨true, cur ++ [ty], rfl, ⟨by (try simp only [go_sem, Int.toNat_natCast, List.length_take, *]) <;> first | done | rfl | omega | (simp <;> omega), by (try simp only [go_sem, Int.toNat_natCast, List.length_take, *]) <;> first | done | rfl | omega | (simp <;> omega), hnd1, hrg1, fun x hx => List.mem_append_left _ (cs x hx), by simp; omega, fun _ => .one (hq ▸ hedge), fun h => by cases h⟩⟩
        · match n, hn with
          | 0, hn => omega
          | n + 1, hn =>
            simp only [go_sem, hq, h0, h2, h3, h15, h16, h17, hz, hz2]
            have ih := fun s' h1 h2 => leads_c bl l to hl hfl hok n d s' ty (cur ++ [ty]) m (by rw [List.length_append, List.length_singleton]; omega) hnd1 hrg1 h0x.1 h0x.2 (by simp only [List.mem_append, List.mem_singleton]; rintro (h | h); exact ct h; exact hq h.symm) h1 h2
            simp only [encTs, show d + 2 + n = d + 1 + (n + 1) by omega] at ih
            refine W.call (ih _ ?_ ?_) ?_
            · simp only [go_sem, hz]
            · simp only [go_sem, hz]; omega
            rintro v s2 ⟨b, seen2, rfl, p1, p2, p3, p4, p5, p6, p7, p8⟩
            rw [List.length_append, List.length_singleton] at p6
            cases b with
            | true =>
              simp only [go_sem, hq, hr, h0, h2, h3, h15, h16, h17, hz, hz2]
              refine wp_some ?_
              refine ⟨true, seen2, rfl, ⟨by (try simp only [go_sem, Int.toNat_natCast, List.length_take, *]) <;> first | done | rfl | omega | (simp <;> omega), by (try simp only [go_sem, Int.toNat_natCast, List.length_take, *]) <;> first | done | rfl | omega | (simp <;> omega), p3, p4, fun x hx => p5 x (List.mem_append_left _ (cs x hx)), by omega, fun _ => .more hedge (p7 rfl), fun h => by cases h⟩⟩
            | false =>
              obtain ⟨q1, q2, q3⟩ := p8 rfl
              simp only [go_sem, hq, h0, h2, h3, h15, h16, h17, hz, hz2, hwrap]
              refine hK _ _ ?_
              refine ⟨by (try simp only [go_sem, Int.toNat_natCast, List.length_take, *]) <;> first | done | rfl | omega | (simp <;> omega), by (try simp only [go_sem, Int.toNat_natCast, List.length_take, *]) <;> first | done | rfl | omega | (simp <;> omega), by (try simp only [go_sem, Int.toNat_natCast, List.length_take, *]) <;> first | done | rfl | omega | (simp <;> omega), by (try simp only [go_sem, Int.toNat_natCast, List.length_take, *]) <;> first | done | rfl | omega | (simp <;> omega), by (try simp only [go_sem, Int.toNat_natCast, List.length_take, *]) <;> first | done | rfl | omega | (simp <;> omega), by (try simp only [go_sem, Int.toNat_natCast, List.length_take, *]) <;> first | done | rfl | omega | (simp <;> omega), seen2, p1, p2, p3, p4, fun x hx => p5 x (List.mem_append_left _ (cs x hx)), by omega, q1, hnext seen2 (fun x hx => p5 x (List.mem_append_left _ hx)) (fun _ => p5 _ (by simp)), fun x hx hns y hy => ?_⟩
              by_cases hxc : x ∈ cur
              · exact p5 _ (List.mem_append_left _ (cc x hxc hns y hy))
              · by_cases hxt : x = ty
                · subst hxt; exact q2 y hy
                · exact q3 x hx (by simp only [List.mem_append, List.mem_singleton]; rintro (h | h); exact hxc h; exact hxt h) y hy
    · simp only [go_sem, hk, h0, h2, h3, h15, h16, h17, hz, hz2, hwrap]
      refine hK _ _ ?_
      refine ⟨by (try simp only [go_sem, Int.toNat_natCast, List.length_take, *]) <;> first | done | rfl | omega | (simp <;> omega), by (try simp only [go_sem, Int.toNat_natCast, List.length_take, *]) <;> first | done | rfl | omega | (simp <;> omega), by (try simp only [go_sem, Int.toNat_natCast, List.length_take, *]) <;> first | done | rfl | omega | (simp <;> omega), by (try simp only [go_sem, Int.toNat_natCast, List.length_take, *]) <;> first | done | rfl | omega | (simp <;> omega), by (try simp only [go_sem, Int.toNat_natCast, List.length_take, *]) <;> first | done | rfl | omega | (simp <;> omega), by (try simp only [go_sem, Int.toNat_natCast, List.length_take, *]) <;> first | done | rfl | omega | (simp <;> omega), cur, by (try simp only [go_sem, Int.toNat_natCast, List.length_take, *]) <;> first | done | rfl | omega | (simp <;> omega), by (try simp only [go_sem, Int.toNat_natCast, List.length_take, *]) <;> first | done | rfl | omega | (simp <;> omega), cn, cr, cs, cl, ct, hnext cur (fun x hx => hx) (fun h => absurd h hk), cc⟩
  · rintro ρ s ⟨h0, h2, h3, h15, h16, h17, cur, co, cm, cn, cr, cs, cl, ct, cf, cc⟩ K hx hr
    have hlt : ¬ (fs.length : Int) < (fs.length : Int) := by omega
    rw [List.take_length] at cf
    simp only [go_sem, hx, h0, h2, h3, h15, h16, h17, hlt]
    refine wp_some ?_
    refine ⟨false, cur, rfl, ⟨by (try simp only [go_sem, Int.toNat_natCast, List.length_take, *]) <;> first | done | rfl | omega | (simp <;> omega), by (try simp only [go_sem, Int.toNat_natCast, List.length_take, *]) <;> first | done | rfl | omega | (simp <;> omega), cn, cr, cs, cl, (fun h => by cases h), fun _ => ⟨ct, fun y hy => ?_, cc⟩⟩⟩
    obtain ⟨f, hf, hk, rfl⟩ := (hE y).1 hy
    exact cf f hf hk
  · show fs.length < 0 + 9223372036854775900
    omega
  · exact ⟨by (try simp only [go_sem, Int.toNat_natCast, List.length_take, *]) <;> first | done | rfl | omega | (simp <;> omega), by (try simp only [go_sem, Int.toNat_natCast, List.length_take, *]) <;> first | done | rfl | omega | (simp <;> omega), by (try simp only [go_sem, Int.toNat_natCast, List.length_take, *]) <;> first | done | rfl | omega | (simp <;> omega), by (try simp only [go_sem, Int.toNat_natCast, List.length_take, *]) <;> first | done | rfl | omega | (simp <;> omega), by (try simp only [go_sem, Int.toNat_natCast, List.length_take, *]) <;> first | done | rfl | omega | (simp <;> omega), by (try simp only [go_sem, Int.toNat_natCast, List.length_take, *]) <;> first | done | rfl | omega | (simp <;> omega), seen, hob, hm, hnd, hrg, fun x hx => hx, Nat.le_refl _, hto, fun f hf => by simp at hf, fun x hx hn => absurd hx hn⟩
/-- the first of some that p tells something of -/
def firstS (p : Nat → Int) : Nat → Nat → Option (Nat × Int)
  | 0, _ => none
  | m + 1, i => if p i ≠ 0 then some (i, p i) else firstS p m (i + 1)
theorem firstS_none {p : Nat → Int} : ∀ {m i : Nat}, firstS p m i = none → ∀ j, i ≤ j → j < i + m → p j = 0
  | 0, i, _, j, h1, h2 => by omega
  | m + 1, i, h, j, h1, h2 => by
    simp only [firstS] at h
    split at h
    · cases h
    · rename_i h0
      by_cases hj : j = i
      · subst hj; simpa using h0
      · exact firstS_none h j (by omega) (by omega)
open Classical in
noncomputable def ringS (l : List Typ) (i : Nat) : Int := if (at0 l (i : Int)).refs = true ∧ Rch l i i then 7 else 0
noncomputable def checkAll (l : List Typ) : Int × Int :=
  if 32 < l.length then (0, 11) else
  match firstS (checkS l) l.length 0 with
  | some (i, e) => (i, e)
  | none => match firstS (ringS l) l.length 0 with
    | some (i, e) => (i, e)
    | none => (0, 0)
theorem fieldsS_all {l : List Typ} {tv : Bool} : ∀ {fs : List Fld} {s : Int} {a b : Nat}, fieldsS l tv fs s a b = 0 → ∀ f ∈ fs, fieldS l tv f = 0
  | [], s, a, b, _, f, hf => by simp at hf
  | g :: fs, s, a, b, h, f, hf => by
    simp only [fieldsS] at h
    split at h
    · rename_i hne; exact absurd h hne
    · rename_i h0
      rcases List.mem_cons.1 hf with rfl | hf
      · simpa using h0
      · exact fieldsS_all h f hf
def resC (p : Int × Int) : AV × St := (.tup [.int .i64 p.1, .int .i64 p.2], St.empty)
end Go.Proofs.Yticlihmbikcohaa.Va
