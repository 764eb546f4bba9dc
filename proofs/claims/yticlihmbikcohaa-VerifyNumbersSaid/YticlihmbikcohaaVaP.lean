/- more operations that turn no memory -/
import Derived.Test.YticlihmbikcohaaVaO
import Derived.Laws.BytesString
import Derived.Laws.Tables
import Derived.Laws.StructEq
namespace Go.Proofs.Yticlihmbikcohaa.Va
open Go Go.RowKit
set_option linter.unusedVariables false
set_option linter.unusedSimpArgs false
section
variable {P : Program} {T : Tab} {c : Cx} {base : Nat} {σ : St}
theorem guard_run (w : World) (op : BinOp) (t : TypeId) (ox oy : Operand) {x y : Value} (hx : vAgg x = false) (hn : x ≠ .nilIface) : (eqGuard op t ox oy x y).run P w = .ok () w := by
  unfold eqGuard
  cases x <;> first | (cases hx; done) | exact absurd rfl hn | (cases op <;> cases y <;> simp)
theorem equal_eq (t : TypeId) (x y : Value) : Op.equal t x y = Op.equalIn (9999 + 1) t x y := rfl
section
variable (w : World) (d : Nat) {t : TypeId}
theorem eqin_bool (hu : P.underlying t = some .bool) (a b : Bool) : (Op.equalIn (d + 1) t (.bool a) (.bool b)).run P w = .ok (a == b) w := by simp [Op.equalIn, run_underlying hu]
theorem eqin_ptr {e : TypeId} (hu : P.underlying t = some (.pointer e)) (a b : Option Addr) (h : a = none ∨ b = none) : (Op.equalIn (d + 1) t (.pointer a) (.pointer b)).run P w = .ok (a.isNone && b.isNone) w := by
  rcases h with rfl | rfl
  · simp [Op.equalIn, run_underlying hu]
  · cases a <;> simp [Op.equalIn, run_underlying hu]
theorem eqin_map {k v : TypeId} (hu : P.underlying t = some (.map k v)) (a : Option Nat) : (Op.equalIn (d + 1) t (.map a) (.map none)).run P w = .ok a.isNone w := by
  cases a <;> simp [Op.equalIn, run_underlying hu]
theorem eqin_slice {e : TypeId} (hu : P.underlying t = some (.slice e)) (a : Option Addr) (n m : Nat) : (Op.equalIn (d + 1) t (.slice a n m) (.slice none 0 0)).run P w = .ok a.isNone w := by
  cases a <;> simp [Op.equalIn, run_underlying hu]
theorem eqin_nilf {x y : Array TypeId} {z : Bool} (hu : P.underlying t = some (.func x y z)) : (Op.equalIn (d + 1) t .nilFunc .nilFunc).run P w = .ok true w := by simp [Op.equalIn, run_underlying hu]
theorem eqin_func {x y : Array TypeId} {z : Bool} (hu : P.underlying t = some (.func x y z)) (f : Fn) (a b : Array Value) : (Op.equalIn (d + 1) t (.func f a b) .nilFunc).run P w = .ok false w := by simp [Op.equalIn, run_underlying hu]
end
theorem bin_eqB (w : World) {op : BinOp} {t : TypeId} {x y : Value} {b : Bool} {r : AV} (h : eqB op b = some r) (hd : ∀ op', (binOp op' t x y) = (match op' with | .eql => (do pure (.bool (← Op.equal t x y))) | .neq => (do pure (.bool (!(← Op.equal t x y)))) | op' => binOp op' t x y))
    (he : (Op.equal t x y).run P w = .ok b w) : ∃ z, (binOp op t x y).run P w = .ok z w ∧ RepT T c r z := by
  cases op <;> simp only [eqB, Option.some.injEq, reduceCtorEq] at h <;> subst h
  · exact ⟨.bool b, by rw [hd]; simp [he], mk_bool _⟩
  · exact ⟨.bool !b, by rw [hd]; simp [he], mk_bool _⟩
theorem repL_length {ts : List TypeId} {vs : List AV} {cs : List Value} (h : RepL T c ts vs cs) : vs.length = ts.length := by
  induction ts generalizing vs cs with
  | nil => cases h; rfl
  | cons t ts ih => cases h with | cons _ _ _ _ _ _ _ _ _ _ hs => simp [ih hs]
variable (hT : TabOk P T) (w : World)
include hT
theorem under_bool {t : TypeId} (h : isBoolT T t = true) : P.underlying t = some .bool := by
  unfold isBoolT at h
  split at h
  · rename_i ht; obtain ⟨D, h1, h2⟩ := hT.und t _ ht; rw [desc_bool h2] at h1; exact h1
  · cases h
theorem under_ptr {t : TypeId} (h : isPtrT T t = true) : ∃ e, P.underlying t = some (.pointer e) := by
  unfold isPtrT at h
  split at h
  · rename_i ht; obtain ⟨D, h1, h2⟩ := hT.und t _ ht; obtain ⟨e, rfl⟩ := desc_ptr h2; exact ⟨e, h1⟩
  · cases h
theorem under_func {t : TypeId} (h : isFuncT T t = true) : ∃ a b d, P.underlying t = some (.func a b d) := by
  unfold isFuncT at h
  split at h
  · rename_i ht; obtain ⟨D, h1, h2⟩ := hT.und t _ ht; obtain ⟨a, b, d, rfl⟩ := desc_func h2; exact ⟨a, b, d, h1⟩
  · cases h
theorem under_map {t : TypeId} (h : isMapT T t = true) : ∃ a b, P.underlying t = some (.map a b) := by
  unfold isMapT at h
  split at h
  · rename_i ht; obtain ⟨D, h1, h2⟩ := hT.und t _ ht; rw [desc_map h2] at h1; exact ⟨_, _, h1⟩
  · cases h
theorem under_slice {t : TypeId} (h : isSliceT T t = true) : ∃ e, P.underlying t = some (.slice e) := by
  unfold isSliceT at h
  split at h
  · rename_i ht; obtain ⟨D, h1, h2⟩ := hT.und t _ ht; rw [desc_slice h2] at h1; exact ⟨_, h1⟩
  · cases h
theorem sd_eqF {d : Nat} {g : TypeId → AV → AV → Option Bool} (IH : ∀ {t x y b vx vy}, g t vx vy = some b → Rep1 T c vx x → Rep1 T c vy y → (Op.equalIn d t x y).run P w = .ok b w) {fs : List TypeId} {xs ys : List AV} {cx cy : Array Value} (hx : RepL T c fs xs cx.toList) (hy : RepL T c fs ys cy.toList)
    {F : List Field} (hF : F.length = fs.length) (hFi : ∀ (i : Nat) (f : Field), F[i]? = some f → fs[i]? = some f.type ∧ f.offset = T.sum (fs.take i)) (hn : ∀ f ∈ F, f.name ≠ "_") :
    ∀ (m i : Nat) {b : Bool}, i + m = fs.length → eqL g (fs.drop i) (xs.drop i) (ys.drop i) = some b → (Op.eqFields d cx cy (F.drop i)).run P w = .ok b w
  | 0, i, b, hi, h => by
    rw [List.drop_eq_nil_of_le (by omega : fs.length ≤ i), List.drop_eq_nil_of_le (by rw [repL_length hx]; omega), List.drop_eq_nil_of_le (by rw [repL_length hy]; omega)] at h
    simp only [eqL, Option.some.injEq] at h
    subst h
    rw [List.drop_eq_nil_of_le (by omega)]
    simp [Op.eqFields]
  | m + 1, i, b, hi, h => by
    have hlf : i < fs.length := by omega
    have hlx : i < xs.length := by rw [repL_length hx]; omega
    have hly : i < ys.length := by rw [repL_length hy]; omega
    have hlF : i < F.length := by omega
    rw [List.drop_eq_getElem_cons hlf, List.drop_eq_getElem_cons hlx, List.drop_eq_getElem_cons hly] at h
    simp only [eqL] at h
    obtain ⟨a, ha, h⟩ := Option.bind_eq_some_iff.1 h
    obtain ⟨b', hb, rfl⟩ := Option.map_eq_some_iff.1 h
    obtain ⟨t1, d1, us, A, B, g1, g2, g3, g4, g5, _⟩ := hx.nth hT.sz i (List.getElem?_eq_getElem hlx)
    obtain ⟨t2, d2, us2, A2, B2, k1, k2, k3, k4, k5, _⟩ := hy.nth hT.sz i (List.getElem?_eq_getElem hly)
    obtain ⟨f1, f2⟩ := hFi i F[i] (List.getElem?_eq_getElem hlF)
    rw [f1] at g1 k1
    cases g1; cases k1
    obtain ⟨y1, p1, p2⟩ := run_part hT w g2 g3 g4
    obtain ⟨y2, q1, q2⟩ := run_part hT w k2 k3 k4
    have hft : fs[i] = (F[i]).type := by rw [List.getElem?_eq_getElem hlf] at f1; exact Option.some.inj f1
    rw [hft] at ha
    rw [g5, ← f2] at p1
    rw [k5, ← f2] at q1
    have hnm : (F[i]).name ≠ "_" := hn _ (List.getElem_mem hlF)
    have rest := sd_eqF IH hx hy hF hFi hn m (i + 1) (by omega) hb
    rw [List.drop_eq_getElem_cons hlF]
    simp only [Op.eqFields, hnm, ne_eq, not_false_eq_true, if_true, Sem.run_bind, p1, q1, Result.andThen_ok, IH ha p2 q2]
    cases a
    · simp
    · simpa using rest
theorem sd_eqT : ∀ (n d : Nat) {t : TypeId} {vx vy : AV} {x y : Value} {b : Bool}, n ≤ d → aEqT T n t vx vy = some b → Rep1 T c vx x → Rep1 T c vy y → (Op.equalIn d t x y).run P w = .ok b w
  | 0, d, t, vx, vy, x, y, b, hd, h, hx, hy => by simp [aEqT] at h
  | n + 1, 0, t, vx, vy, x, y, b, hd, h, hx, hy => by omega
  | n + 1, d + 1, t, vx, vy, x, y, b, hd, h, hx, hy => by
    unfold aEqT at h
    split at h
    · rename_i a b'
      obtain rfl := rep_bool hx.toT
      obtain rfl := rep_bool hy.toT
      split at h
      · rename_i ht
        simp only [Option.some.injEq] at h
        subst h
        exact eqin_bool w d (under_bool hT (by simp [isBoolT, ht])) _ _
      · cases h
    · rename_i k a k' b'
      obtain rfl := rep_int hx.toT
      obtain rfl := rep_int hy.toT
      split at h
      · rename_i hc
        obtain ⟨rfl, ht⟩ := hc
        simp only [Option.some.injEq] at h
        subst h
        obtain ⟨D, hu, hD⟩ := hT.und t _ ht
        obtain rfl := desc_int hD
        exact run_equalIn_int w d t _ _ a b' hu
      · cases h
    · rename_i a b'
      obtain rfl := rep_str hx.toT
      obtain rfl := rep_str hy.toT
      split at h
      · rename_i ht
        simp only [Option.some.injEq] at h
        subst h
        obtain ⟨D, hu, hD⟩ := hT.und t _ ht
        obtain rfl := desc_str hD
        exact run_equalIn_string w d t a b' hu
      · cases h
    · rename_i s xs s' ys
      split at h
      · rename_i hc
        obtain ⟨he, hs, hs'⟩ := hc
        split at h
        · rename_i fs ht
          obtain ⟨F, hF, hn, h1, h2⟩ := hT.eqs t he
          obtain ⟨d1, ts1, cx, rfl, e1, e2, e3⟩ := rep_agg hx.toT
          obtain ⟨d2, ts2, cy, rfl, k1, k2, k3⟩ := rep_agg hy.toT
          rw [same_ty hs, ht] at e1
          rw [same_ty hs', ht] at k1
          cases e1; cases k1
          simp only [Tab.comps, Option.some.injEq] at e2 k2
          subst e2 k2
          obtain ⟨D, hu, hD⟩ := hT.und t _ ht
          rw [hF] at hu
          cases hu
          obtain ⟨hlen, hFi⟩ := hD
          have hfo : P.fieldsOf t = F := by simp [Program.fieldsOf, hF]
          rw [run_equalIn_struct w d t cx cy (by rw [hfo]; exact hF) h1, hfo]
          exact sd_eqF hT w (g := aEqT T n) (fun hg hx hy => sd_eqT n d (by omega) hg hx hy) e3 k3 (by simpa using hlen) (fun i f hf => hFi i f (by simpa using hf)) hn fs.length 0 (by omega) h
        · cases h
      · cases h
    · cases h
theorem sd_bin {op : BinOp} {t : TypeId} {v u r : AV} {x y : Value} {ox oy : Operand} (h : aBin T op t v u = some r) (hr : RepT T c v x) (hs : RepT T c u y) :
    ∃ z, (do eqGuard op t ox oy x y; binOp op t x y : Sem Value).run P w = .ok z w ∧ RepT T c r z := by
  have fin : (∃ z, (binOp op t x y).run P w = .ok z w ∧ RepT T c r z) → vAgg x = false → x ≠ .nilIface → ∃ z, (do eqGuard op t ox oy x y; binOp op t x y : Sem Value).run P w = .ok z w ∧ RepT T c r z := by
    rintro ⟨z, h1, h2⟩ ha hn
    exact ⟨z, by rw [Sem.run_bind, guard_run w op t ox oy ha hn]; simpa using h1, h2⟩
  unfold aBin at h
  split at h
  · rename_i k a k' b
    obtain rfl := rep_int hr
    obtain rfl := rep_int hs
    refine fin ?_ rfl (by simp)
    cases op <;> simp only [intBin] at h <;> first
      | (split at h <;> simp only [Option.some.injEq, reduceCtorEq] at h <;> subst h; rename_i hk; refine ⟨_, ?_, mk_int _ _⟩; simp [binOp, Op.shift, hk]; done)
      | (split at h
         · rename_i hk; subst hk
           first
             | (simp only [Option.some.injEq] at h; subst h; refine ⟨_, ?_, mk_int _ _⟩; simp [binOp, Op.intArith, Op.intBits]; done)
             | (simp only [Option.some.injEq] at h; subst h; refine ⟨_, ?_, mk_bool _⟩; simp [binOp, Op.intCmp]; done)
             | (split at h <;> simp only [Option.some.injEq, reduceCtorEq] at h <;> subst h; rename_i hb; refine ⟨_, ?_, mk_int _ _⟩; simp [binOp, Op.intDiv, hb]; done)
         · cases h)
      | cases h
  · rename_i a b
    obtain rfl := rep_bool hr
    obtain rfl := rep_bool hs
    refine fin ?_ rfl (by simp)
    split at h
    · rename_i ht
      refine bin_eqB w h (fun op' => by cases op' <;> rfl) ?_
      rw [equal_eq]; exact eqin_bool w _ (under_bool hT ht) a b
    · cases h
  · rename_i a b
    obtain rfl := rep_str hr
    obtain rfl := rep_str hs
    refine fin ?_ rfl (by simp)
    split at h
    · split at h
      · rename_i hl
        simp only [Option.some.injEq] at h
        subst h
        refine ⟨_, ?_, mk_str _⟩
        have : ¬ ((a.size : Int) + (b.size : Int) > IntKind.i64.max) := by
          have : IntKind.i64.max = 9223372036854775807 := by decide
          rw [this]; omega
        simp only [binOp, Op.stringOp]
        rw [if_neg (by push_cast at this ⊢; exact this)]; rfl
      · cases h
    · cases op <;> simp only [eqB, Option.some.injEq, reduceCtorEq] at h <;> subst h <;> (refine ⟨_, ?_, mk_bool _⟩; simp [binOp, Op.stringOp])
  rotate_right
  · cases h
  rotate_right
  · rename_i s xs s' ys
    obtain ⟨b, hb, h⟩ := Option.bind_eq_some_iff.1 h
    have he : T.eqT t = true := by
      unfold aEqT at hb
      simp only at hb
      split at hb
      · rename_i hc; exact hc.1
      · cases hb
    obtain ⟨F, hF, hn, h1, h2⟩ := hT.eqs t he
    obtain ⟨d1, ts1, cx, rfl, _⟩ := rep_agg hr
    obtain ⟨d2, ts2, cy, rfl, _⟩ := rep_agg hs
    have hg := run_eqGuard_agg w op t ox oy cx cy h2
    have hq := sd_eqT hT w (c := c) 20 10000 (by decide) hb hr hs
    cases op <;> simp only [eqB, Option.some.injEq, reduceCtorEq] at h <;> subst h
    · exact ⟨.bool b, by rw [Sem.run_bind, hg]; simp only [Result.andThen_ok]; rw [run_eql_struct, hq]; rfl, mk_bool _⟩
    · exact ⟨.bool !b, by rw [Sem.run_bind, hg]; simp only [Result.andThen_ok]; rw [run_neq_struct, hq]; rfl, mk_bool _⟩
  all_goals split at h
  all_goals first | (cases h; done) | rename_i ht
  · obtain rfl := rep_nilp hr
    obtain rfl := rep_nilp hs
    obtain ⟨e, hu⟩ := under_ptr hT ht
    refine fin (bin_eqB w h (fun op' => by cases op' <;> rfl) ?_) rfl (by simp)
    rw [equal_eq]; exact eqin_ptr w _ hu _ _ (.inl rfl)
  · obtain ⟨o, rfl, _⟩ := rep_ptr hr
    obtain rfl := rep_nilp hs
    obtain ⟨e, hu⟩ := under_ptr hT ht
    refine fin (bin_eqB w h (fun op' => by cases op' <;> rfl) ?_) rfl (by simp)
    rw [equal_eq]; exact eqin_ptr w _ hu _ _ (.inr rfl)
  · obtain ⟨b, o, d, cs, rfl, _⟩ := rep_fptr hr
    obtain rfl := rep_nilp hs
    obtain ⟨e, hu⟩ := under_ptr hT ht
    refine fin (bin_eqB w h (fun op' => by cases op' <;> rfl) ?_) rfl (by simp)
    rw [equal_eq]; exact eqin_ptr w _ hu _ _ (.inr rfl)
  · obtain rfl := rep_nilp hr
    obtain ⟨o, rfl, _⟩ := rep_ptr hs
    obtain ⟨e, hu⟩ := under_ptr hT ht
    refine fin (bin_eqB w h (fun op' => by cases op' <;> rfl) ?_) rfl (by simp)
    rw [equal_eq]; exact eqin_ptr w _ hu _ _ (.inl rfl)
  · obtain rfl := rep_nilp hr
    obtain ⟨b, o, d, cs, rfl, _⟩ := rep_fptr hs
    obtain ⟨e, hu⟩ := under_ptr hT ht
    refine fin (bin_eqB w h (fun op' => by cases op' <;> rfl) ?_) rfl (by simp)
    rw [equal_eq]; exact eqin_ptr w _ hu _ _ (.inl rfl)
  · obtain rfl := rep_nilf hr
    obtain rfl := rep_nilf hs
    obtain ⟨_, _, _, hu⟩ := under_func hT ht
    refine fin (bin_eqB w h (fun op' => by cases op' <;> rfl) ?_) rfl (by simp)
    rw [equal_eq]; exact eqin_nilf w _ hu
  · obtain ⟨ws, rfl, _⟩ := rep_func hr
    obtain rfl := rep_nilf hs
    obtain ⟨_, _, _, hu⟩ := under_func hT ht
    refine fin (bin_eqB w h (fun op' => by cases op' <;> rfl) ?_) rfl (by simp)
    rw [equal_eq]; exact eqin_func w _ hu _ _ _
  · obtain rfl := rep_nilm hr
    obtain rfl := rep_nilm hs
    obtain ⟨_, _, hu⟩ := under_map hT ht
    refine fin (bin_eqB w h (fun op' => by cases op' <;> rfl) ?_) rfl (by simp)
    rw [equal_eq]; exact eqin_map w _ hu _
  · obtain ⟨rfl, _⟩ := rep_map hr
    obtain rfl := rep_nilm hs
    obtain ⟨_, _, hu⟩ := under_map hT ht
    refine fin (bin_eqB w h (fun op' => by cases op' <;> rfl) ?_) rfl (by simp)
    rw [equal_eq]; exact eqin_map w _ hu _
  · obtain ⟨a, rfl, ha⟩ := rep_mt hr
    obtain ⟨a', rfl, ha'⟩ := rep_mt hs
    obtain rfl := ha'.1 rfl
    obtain ⟨_, hu⟩ := under_slice hT ht
    refine fin (bin_eqB w h (fun op' => by cases op' <;> rfl) ?_) rfl (by simp)
    rw [equal_eq, eqin_slice w _ hu]
    cases a <;> simp_all
  · obtain ⟨a', rfl, ha'⟩ := rep_mt hs
    obtain rfl := ha'.1 rfl
    obtain ⟨_, hu⟩ := under_slice hT ht
    rcases rep_list hr with ⟨rfl, a, cap, rfl, ha, _⟩ | ⟨_, rfl, cs, b, o, cap, rfl, _⟩
    · refine fin (bin_eqB w h (fun op' => by cases op' <;> rfl) ?_) rfl (by simp)
      rw [equal_eq, eqin_slice w _ hu]
      cases a <;> simp_all
    · refine fin (bin_eqB w h (fun op' => by cases op' <;> rfl) ?_) rfl (by simp)
      rw [equal_eq]; exact eqin_slice w _ hu _ _ _
  · obtain ⟨a', rfl, ha'⟩ := rep_mt hs
    obtain rfl := ha'.1 rfl
    obtain ⟨_, hu⟩ := under_slice hT ht
    obtain ⟨o, cap, rfl, _⟩ := rep_view hr
    refine fin (bin_eqB w h (fun op' => by cases op' <;> rfl) ?_) rfl (by simp)
    rw [equal_eq]; exact eqin_slice w _ hu _ _ _
end
end Go.Proofs.Yticlihmbikcohaa.Va
