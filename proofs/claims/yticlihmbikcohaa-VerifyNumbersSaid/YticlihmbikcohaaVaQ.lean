/- loads, cuts, conversions, aggregates built -/
import Derived.Test.YticlihmbikcohaaVaP
namespace Go.Proofs.Yticlihmbikcohaa.Va
open Go Go.RowKit
set_option linter.unusedVariables false
set_option linter.unusedSimpArgs false
section
variable {P : Program} {T : Tab} {c : Cx} {base : Nat} {σ : St}
theorem same_ty' {s t : TypeId} {d : Ty} (h : T.same s t = true) (hs : T.ty s = some d) : T.ty t = some d := (same_ty h).symm.trans hs
theorem sd_un (w : World) {op : UnOp} {v r : AV} {x : Value} (h : aUn op v = some r) (hr : RepT T c v x) : ∃ z, (Op.unary op x).run P w = .ok z w ∧ RepT T c r z := by
  unfold aUn at h
  split at h
  · simp only [Option.some.injEq] at h; subst h; obtain rfl := rep_bool hr; refine ⟨_, ?_, mk_bool _⟩; simp [Op.unary]
  · simp only [Option.some.injEq] at h; subst h; obtain rfl := rep_int hr; refine ⟨_, ?_, mk_int _ _⟩; simp [Op.unary, Op.intArith]
  · simp only [Option.some.injEq] at h; subst h; obtain rfl := rep_int hr; refine ⟨_, ?_, mk_int _ _⟩; simp [Op.unary, Op.intBits]
  · cases h
variable (hT : TabOk P T) {w : World}
include hT
theorem sd_load (hI : Inv T base c σ w) {t : TypeId} {p u : AV} {x : Value} (h : @aLoad T ⟨σ⟩ t p = some u) (hr : RepT T c p x) : ∃ y, (Instr.loadAt t x).run P w = .ok y w ∧ Rep1 T c u y := by
  unfold aLoad at h
  split at h
  · rename_i s v
    split at h
    · rename_i hs
      simp only [Option.some.injEq] at h; subst h
      obtain ⟨b, o, d, cs, rfl, hsd, hv, hF⟩ := rep_fptr hr
      obtain ⟨y, hy, hry⟩ := run_load_at hT w (same_ty' hs hsd) hv.open (b := b) (o := o) (fun j hj => by
        have := hI.F b (o + j) _ (hF j cs[j] (List.getElem?_eq_getElem hj))
        rw [this, List.getElem?_eq_getElem hj])
      exact ⟨y, by simpa [Instr.loadAt, Instr.sureAddr, Sem.run_bind] using hy, hry⟩
    · cases h
  · rename_i s id path
    split at h
    · rename_i hs
      obtain ⟨o, rfl, hid, hl⟩ := rep_ptr hr
      split at h
      · rename_i e vs hob
        obtain ⟨h1, h2, h3, hO⟩ := hI.obj id _ hob
        obtain ⟨he, _, cs, tail, hblk, hL⟩ := hO
        obtain ⟨o', t', d', us, g1, g2, g3, g4, _⟩ := hL.part hT.sz h
        rw [he, g1] at hl
        simp only [Option.some.injEq, Prod.mk.injEq] at hl
        obtain ⟨rfl, rfl⟩ := hl
        obtain ⟨y, hy, hry⟩ := run_load_at hT w (same_ty' hs g2) g3 (b := c.μ id) (o := o') (fun j hj => by
          have hcs := g4 j hj
          rw [cell_of_row w _ _ _ _ _ hblk, List.getElem?_toArray, ← hcs, List.getElem?_append_left]
          rw [List.getElem?_eq_getElem hj] at hcs
          exact (List.getElem?_eq_some_iff.1 hcs).1)
        exact ⟨y, by simpa [Instr.loadAt, Instr.sureAddr, Sem.run_bind] using hy, hry⟩
      · cases h
    · cases h
  · cases h
theorem sd_index {t : TypeId} {v iv u : AV} {x ix : Value} (h : aIndex T t v iv = some u) (hr : RepT T c v x) (hi : RepT T c iv ix) : ∃ y, (Instr.index t x ix).run P w = .ok y w ∧ RepT T c u y := by
  unfold aIndex at h
  split at h
  · rename_i k n
    obtain rfl := rep_int hi
    split at h
    · rename_i s vs
      split at h
      · rename_i hs
        split at h
        · rename_i m e ht
          split at h
          · rename_i hc
            obtain ⟨h0, hn⟩ := hc
            obtain ⟨d, ts, cs, rfl, hsd, hcomp, hL⟩ := rep_agg hr
            have hd' : d = .array m e := by rw [same_ty hs, ht] at hsd; exact (Option.some.inj hsd).symm
            subst hd'
            obtain rfl : List.replicate m e = ts := by simpa [Tab.comps] using hcomp
            obtain ⟨t1, d1, us, A, B, h1, h2, h3, h4, h5, _⟩ := hL.nth hT.sz _ h
            obtain ⟨hlt, rfl⟩ : n.toNat < m ∧ e = t1 := by rw [List.getElem?_replicate] at h1; split at h1 <;> simp_all
            rw [List.take_replicate, sum_replicate, Nat.min_eq_left (Nat.le_of_lt hlt)] at h5
            obtain ⟨D, hu, hrun, hd⟩ := run_under hT w ht
            obtain rfl := desc_array hd
            obtain ⟨y, hy, hry⟩ := run_part hT w h2 h3 h4
            rw [h5] at hy
            refine ⟨y, ?_, hry.toT⟩
            simp [Instr.index, Sem.run_bind, asIntOf, hrun, h0, hn, run_size hT w h2, hy]
          · cases h
        · cases h
      · cases h
    · rename_i s
      split at h
      · rename_i hc
        obtain ⟨ht, h0, hn⟩ := hc
        obtain rfl := rep_str hr
        cases hb : s.data.toList[n.toNat]? with
        | none => rw [hb] at h; cases h
        | some b =>
          rw [hb] at h
          simp only [Option.map_some, Option.some.injEq] at h
          subst h
          obtain ⟨D, hu, hrun, hd⟩ := run_under hT w ht
          obtain rfl := desc_str hd
          refine ⟨.int .u8 b.toNat, ?_, mk_int _ _⟩
          have hb' : s[n.toNat]? = some b := by
            have hlt : n.toNat < s.size := by omega
            have : s.data[n.toNat]? = some b := by rw [← Array.getElem?_toList]; exact hb
            rw [getElem?_pos s n.toNat hlt]
            rw [Array.getElem?_eq_getElem (show n.toNat < s.data.size from hlt)] at this
            exact this
          simp [Instr.index, Sem.run_bind, asIntOf, hrun, h0, hb']
      · cases h
    · cases h
  · cases h
def RepO (T : Tab) (c : Cx) : Option AV → Option Value → Prop
  | none, none => True
  | some v, some x => RepT T c v x
  | _, _ => False
omit hT in
theorem bound_int {v : AV} {y : Value} {d n : Nat} (h : bound (some v) d = some n) (hr : RepT T c v y) : ∃ k i, y = .int k i ∧ 0 ≤ i ∧ n = i.toNat := by
  unfold bound at h
  split at h
  · rename_i h'; cases h'
  · rename_i k i h'
    split at h
    · rename_i h0
      simp only [Option.some.injEq] at h h'
      subst h'
      exact ⟨_, _, rep_int hr, h0, h.symm⟩
    · cases h
  · cases h
omit hT in
theorem bounds_run {b : Bool} {lo hi : Option AV} {ylo yhi : Option Value} {len cap l h : Nat} (hl : bound lo 0 = some l) (hh : bound hi len = some h) (rl : RepO T c lo ylo) (rh : RepO T c hi yhi) (h1 : l ≤ h) (h2 : h ≤ cap) :
    (Instr.sliceBounds b len cap ylo yhi none).run P w = .ok (l, h, cap) w := by
  have step : ∀ (k : IntKind) (i : Int) (y : Nat) (code : BoundsCode), 0 ≤ i → i.toNat ≤ y → (Instr.sliceBound (.int k i) y code).run P w = .ok i.toNat w := fun k i y code h0 hy => run_sliceBound w k i y code h0 (by omega)
  unfold Instr.sliceBounds
  cases hi with
  | none =>
    cases yhi with
    | some _ => exact rh.elim
    | none =>
      obtain rfl : len = h := by simpa [bound] using hh
      cases lo with
      | none =>
        cases ylo with
        | some _ => exact rl.elim
        | none =>
          obtain rfl : 0 = l := by simpa [bound] using hl
          simp
      | some v =>
        cases ylo with
        | none => exact rl.elim
        | some y =>
          obtain ⟨k, i, rfl, h0, rfl⟩ := bound_int hl rl
          simp [Sem.run_bind, step k i _ _ h0 h1]
  | some vh =>
    cases yhi with
    | none => exact rh.elim
    | some yh =>
      obtain ⟨k, i, rfl, h0, rfl⟩ := bound_int hh rh
      cases lo with
      | none =>
        cases ylo with
        | some _ => exact rl.elim
        | none =>
          obtain rfl : 0 = l := by simpa [bound] using hl
          simp [Sem.run_bind, step k i _ _ h0 h2]
      | some v =>
        cases ylo with
        | none => exact rl.elim
        | some y =>
          obtain ⟨k', i', rfl, h0', rfl⟩ := bound_int hl rl
          simp [Sem.run_bind, step k i _ _ h0 h2, step k' i' _ _ h0' h1]
omit hT in
theorem take_drop_rep {e : TypeId} {xs : List AV} {cs : List Value} (hT : TabSz T) (h : RepL T c (List.replicate xs.length e) xs cs) (l k : Nat) (hlk : l + k ≤ xs.length) :
    ∃ us, RepL T c (List.replicate k e) ((xs.drop l).take k) us ∧ ∀ j u, us[j]? = some u → cs[l * T.size e + j]? = some u := by
  induction xs generalizing cs l k with
  | nil =>
    obtain rfl : l = 0 := by simp at hlk; omega
    obtain rfl : k = 0 := by simp at hlk; omega
    exact ⟨[], by simpa using RepL.nil c, fun j u hj => by simp at hj⟩
  | cons x xs ih =>
    simp only [List.length_cons, List.replicate_succ] at h
    cases h with
    | cons _ _ d _ _ _ c1 c2 ht h1 h2 =>
      have hl1 := h1.len hT
      rw [← hT e d ht] at hl1
      cases l with
      | succ l =>
        obtain ⟨us, g1, g2⟩ := ih h2 l k (by simp at hlk; omega)
        refine ⟨us, by simpa using g1, fun j u hj => ?_⟩
        rw [List.getElem?_append_right (by rw [hl1, Nat.add_mul]; omega), show (l + 1) * T.size e + j - c1.length = l * T.size e + j by rw [hl1, Nat.add_mul]; omega]
        exact g2 j u hj
      | zero =>
        cases k with
        | zero => exact ⟨[], by simpa using RepL.nil c, fun j u hj => by simp at hj⟩
        | succ k =>
          obtain ⟨us, g1, g2⟩ := ih h2 0 k (by simp at hlk; omega)
          refine ⟨c1 ++ us, by simpa [List.replicate_succ] using RepL.cons _ e d _ x _ c1 us ht h1 (by simpa using g1), fun j u hj => ?_⟩
          simp only [Nat.zero_mul, Nat.zero_add] at g2 ⊢
          by_cases hlt : j < c1.length
          · rw [List.getElem?_append_left hlt] at hj ⊢; exact hj
          · rw [List.getElem?_append_right (by omega)] at hj ⊢; exact g2 _ u hj
theorem sd_slice {t : TypeId} {v r : AV} {lo hi mx : Option AV} {x : Value} {ylo yhi ymx : Option Value} (h : aSlice T t v lo hi mx = some r) (hr : RepT T c v x) (rl : RepO T c lo ylo) (rh : RepO T c hi yhi) (rm : RepO T c mx ymx) :
    ∃ y, (Instr.sliceAt t x ylo yhi ymx).run P w = .ok y w ∧ RepT T c r y := by
  have none_of : mx = none → ymx = none := fun e => by subst e; cases ymx with | none => rfl | some _ => exact rm.elim
  have elem : ∀ {e : TypeId}, T.ty t = some (.slice e) → (underlying t).run P w = .ok (.slice e) w ∧ (sizeOf e).run P w = .ok (T.size e) w := fun {e} ht => by
    obtain ⟨D, hu, hrun, hd⟩ := run_under hT w ht
    obtain rfl := desc_slice hd
    obtain ⟨d, hd⟩ := hT.elem t e ht
    exact ⟨hrun, run_size hT w hd⟩
  have zeros : ∀ {m : AV} {l q z : Nat}, mx = some m → bound lo 0 = some l → bound hi 0 = some q → bound (some m) 0 = some z → l = 0 → q = 0 → z = 0 → hi.isSome = true → ∀ len cap, (Instr.sliceBounds true len cap ylo yhi ymx).run P w = .ok (0, 0, 0) w := by
    intro m l q z em hl hq hz e1 e2 e3 his len cap
    subst em e1 e2 e3
    have step : ∀ (k : IntKind) (i : Int) (y : Nat) (code : BoundsCode), 0 ≤ i → i.toNat ≤ y → (Instr.sliceBound (.int k i) y code).run P w = .ok i.toNat w := fun k i y code h0 hy => run_sliceBound w k i y code h0 (by omega)
    cases ymx with
    | none => exact rm.elim
    | some ym =>
      obtain ⟨k, i, rfl, h0, hi0⟩ := bound_int hz rm
      cases hi with
      | none => cases his
      | some vh =>
        cases yhi with
        | none => exact rh.elim
        | some yh =>
          obtain ⟨k', i', rfl, h0', hi0'⟩ := bound_int hq rh
          obtain rfl : i = 0 := by omega
          obtain rfl : i' = 0 := by omega
          have s1 := step k 0 cap .slice3Acap (by omega) (by simp)
          have s2 := step k' 0 0 .slice3B (by omega) (by simp)
          unfold Instr.sliceBounds
          cases lo with
          | none =>
            cases ylo with
            | some _ => exact rl.elim
            | none => simp only [Sem.run_bind, if_true, s1, s2, Result.andThen_ok, Int.toNat_zero, Sem.run_pure]
          | some vl =>
            cases ylo with
            | none => exact rl.elim
            | some yl =>
              obtain ⟨k'', i'', rfl, h0'', hi0''⟩ := bound_int hl rl
              obtain rfl : i'' = 0 := by omega
              have s3 := step k'' 0 0 .slice3C (by omega) (by simp)
              simp only [Sem.run_bind, if_true, s1, s2, s3, Result.andThen_ok, Int.toNat_zero, Sem.run_pure, Option.isSome_some]
  unfold aSlice at h
  split at h
  · rename_i s ht
    obtain rfl := none_of rfl
    obtain ⟨l, hl, h2⟩ := Option.bind_eq_some_iff.1 h
    obtain ⟨q, hq, h3⟩ := Option.bind_eq_some_iff.1 h2
    split at h3
    · rename_i hc
      simp only [Option.some.injEq] at h3
      subst h3
      obtain rfl := rep_str hr
      obtain ⟨D, hu, hrun, hd⟩ := run_under hT w ht
      obtain rfl := desc_str hd
      refine ⟨_, ?_, mk_str _⟩
      simp [Instr.sliceAt, Instr.slice, Sem.run_bind, hrun, bounds_run (P := P) (w := w) (b := false) hl hq rl rh hc.1 hc.2]
    · cases h3
  · rename_i e b ht
    obtain rfl := none_of rfl
    obtain ⟨l, hl, h2⟩ := Option.bind_eq_some_iff.1 h
    obtain ⟨q, hq, h3⟩ := Option.bind_eq_some_iff.1 h2
    split at h3
    · rename_i hc
      obtain ⟨h4, h5⟩ := hc
      simp only [Option.some.injEq] at h3
      subst h4 h5 h3
      obtain ⟨a, rfl, ha⟩ := rep_mt hr
      obtain ⟨hrun, hsz⟩ := elem ht
      refine ⟨.slice a 0 0, ?_, hr⟩
      simp [Instr.sliceAt, Instr.slice, Sem.run_bind, hrun, hsz, bounds_run (P := P) (w := w) (b := true) (len := 0) (cap := 0) hl hq rl rh (Nat.le_refl _) (Nat.le_refl _)]
    · cases h3
  · rename_i e' e b xs tok ht
    obtain rfl := none_of rfl
    obtain ⟨l, hl, h2⟩ := Option.bind_eq_some_iff.1 h
    obtain ⟨q, hq, h3⟩ := Option.bind_eq_some_iff.1 h2
    split at h3
    · rename_i hc
      obtain ⟨h4, h5, rfl⟩ := hc
      simp only [Option.some.injEq] at h3
      subst h3
      obtain ⟨hrun, hsz⟩ := elem ht
      rcases rep_list hr with ⟨rfl, a, cap, rfl, ha, _⟩ | ⟨hne, rfl, cs, b, o, cap, rfl, hL, hF, hcap, _⟩
      · obtain rfl : q = 0 := by simpa using h5
        obtain rfl : l = 0 := by omega
        refine ⟨.slice a 0 cap, ?_, ?_⟩
        · by_cases hz : cap = 0
          · subst hz; simp [Instr.sliceAt, Instr.slice, Sem.run_bind, hrun, hsz, bounds_run (P := P) (w := w) (b := true) (len := 0) (cap := 0) hl hq rl rh (Nat.le_refl _) (Nat.le_refl _)]
          · cases a <;> simp [Instr.sliceAt, Instr.slice, Sem.run_bind, hrun, hsz, bounds_run (P := P) (w := w) (b := true) (len := 0) (cap := cap) hl hq rl rh (Nat.le_refl _) (Nat.zero_le _), hz, Addr.add]
        · have h0 : ((([] : List AV).take 0).drop 0) = [] := rfl
          rw [h0]
          exact ⟨_, .list0 c e' _ a cap none ha trivial, rfl⟩
      · have hrunB := bounds_run (P := P) (w := w) (b := true) (len := xs.length) (cap := cap) hl hq rl rh h4 (Nat.le_trans h5 hcap)
        by_cases hz : q = l
        · subst hz
          have hnil : (xs.take q).drop q = [] := by simp
          rw [hnil]
          refine ⟨.slice (if cap = q then some ⟨b, o, none⟩ else some ⟨b, o + q * T.size e', none⟩) 0 (cap - q), ?_, ⟨_, .list0 c e' _ _ _ none (by split <;> simp) trivial, rfl⟩⟩
          by_cases hcq : cap = q
          · simp [Instr.sliceAt, Instr.slice, Sem.run_bind, hrun, hsz, hrunB]; simp [hcq]
          · simp [Instr.sliceAt, Instr.slice, Sem.run_bind, hrun, hsz, hrunB, hcq, Addr.add_lit]
        · have hlt : cap ≠ l := by omega
          obtain ⟨us, g1, g2⟩ := take_drop_rep hT.sz hL l (q - l) (by omega)
          have he : (xs.take q).drop l = (xs.drop l).take (q - l) := by rw [List.take_drop]; congr 2; omega
          rw [he]
          have hlen : ((xs.drop l).take (q - l)).length = q - l := by simp; omega
          refine ⟨.slice (some ⟨b, o + l * T.size e', none⟩) (q - l) (cap - l), ?_, ?_⟩
          · simp [Instr.sliceAt, Instr.slice, Sem.run_bind, hrun, hsz, hrunB, hlt, Addr.add_lit]
          · have := RepV.list c e' ((xs.drop l).take (q - l)) us b (o + l * T.size e') (cap - l) none (by rw [hlen]; exact g1) (fun j v hj => by rw [Nat.add_assoc]; exact hF _ _ (g2 j v hj)) (by intro e0; rw [e0] at hlen; simp at hlen; omega) (by rw [hlen]; omega) trivial
            rw [hlen] at this
            exact ⟨_, this, rfl⟩
    · cases h3
  · rename_i e' e b xs tok m ht
    obtain ⟨l, hl, h2⟩ := Option.bind_eq_some_iff.1 h
    obtain ⟨q, hq, h3⟩ := Option.bind_eq_some_iff.1 h2
    obtain ⟨z, hz, h4⟩ := Option.bind_eq_some_iff.1 h3
    split at h4
    · rename_i hc
      obtain ⟨c1, c2, c3, c4⟩ := hc
      simp only [Option.some.injEq] at h4
      subst h4
      obtain ⟨hrun, hsz⟩ := elem ht
      have hB := zeros rfl hl hq hz c1 c2 c3 c4
      rcases rep_list hr with ⟨rfl, a, cap, rfl, ha, _⟩ | ⟨hne, rfl, cs, b, o, cap, rfl, hL, hF, hcap, _⟩
      · exact ⟨.slice a 0 0, by simp [Instr.sliceAt, Instr.slice, Sem.run_bind, hrun, hsz, hB], _, .mt c e' _ a ha, rfl⟩
      · exact ⟨.slice (some ⟨b, o, none⟩) 0 0, by simp [Instr.sliceAt, Instr.slice, Sem.run_bind, hrun, hsz, hB], _, .mt c e' _ _ (by simp), rfl⟩
    · cases h4
  · rename_i e' b m ht
    obtain ⟨l, hl, h2⟩ := Option.bind_eq_some_iff.1 h
    obtain ⟨q, hq, h3⟩ := Option.bind_eq_some_iff.1 h2
    obtain ⟨z, hz, h4⟩ := Option.bind_eq_some_iff.1 h3
    split at h4
    · rename_i hc
      obtain ⟨c1, c2, c3, c4⟩ := hc
      simp only [Option.some.injEq] at h4
      subst h4
      obtain ⟨hrun, hsz⟩ := elem ht
      have hB := zeros rfl hl hq hz c1 c2 c3 c4
      obtain ⟨a, rfl, ha⟩ := rep_mt hr
      exact ⟨.slice a 0 0, by simp [Instr.sliceAt, Instr.slice, Sem.run_bind, hrun, hsz, hB], hr⟩
    · cases h4
  · rename_i e' e id path off len ht
    obtain rfl := none_of rfl
    obtain ⟨l, hl, h2⟩ := Option.bind_eq_some_iff.1 h
    obtain ⟨q, hq, h3⟩ := Option.bind_eq_some_iff.1 h2
    split at h3
    · rename_i hc
      obtain ⟨h4, h5, h6, rfl⟩ := hc
      simp only [Option.some.injEq] at h3
      subst h3
      obtain ⟨hrun, hsz⟩ := elem ht
      obtain ⟨o, cap, rfl, hid, hloc, hcap⟩ := rep_view hr
      have hrunB := bounds_run (P := P) (w := w) (b := true) (len := len) (cap := cap) hl hq rl rh h4 (Nat.le_trans h5 hcap)
      refine ⟨.slice (some ⟨c.μ id, o + off * T.size e' + l * T.size e', none⟩) (q - l) (cap - l), ?_, ?_⟩
      · have hlt : cap ≠ l := by omega
        simp [Instr.sliceAt, Instr.slice, Sem.run_bind, hrun, hsz, hrunB, hlt, Addr.add_lit]
      · rw [Nat.add_assoc, ← Nat.add_mul]
        exact ⟨_, .view c e' id path (off + l) (q - l) o (cap - l) hid hloc (by omega), rfl⟩
    · cases h3
  · rename_i n e s id path ht
    obtain rfl := none_of rfl
    obtain ⟨l, hl, h2⟩ := Option.bind_eq_some_iff.1 h
    obtain ⟨q, hq, h3⟩ := Option.bind_eq_some_iff.1 h2
    split at h3
    · rename_i hc
      obtain ⟨h4, h5, h6, h7, hne⟩ := hc
      simp only [Option.some.injEq] at h3
      subst h3
      obtain ⟨D, hu, hrun, hd⟩ := run_under hT w ht
      obtain rfl := desc_array hd
      obtain ⟨o, rfl, hid, hloc⟩ := rep_ptr hr
      obtain ⟨d, hd⟩ := hT.sub t _ _ ht rfl e (by simp; omega)
      have hrunB := bounds_run (P := P) (w := w) (b := false) (len := n) (cap := n) hl hq rl rh h5 h6
      refine ⟨.slice (some ⟨c.μ id, o + l * T.size e, none⟩) (q - l) (n - l), ?_, _, .view c e id path l (q - l) o (n - l) hid ?_ (by omega), rfl⟩
      · have hlt : n ≠ l := by omega
        simp [Instr.sliceAt, Sem.run_bind, hrun, run_size hT w hd, hrunB, hlt, Addr.add_lit, Instr.sureAddr]
      · unfold Tab.rowLoc
        split
        · exact absurd rfl hne
        · rw [hloc]; simp [(same_ty h4).trans ht, hd]
    · cases h3
  · cases h
end
end Go.Proofs.Yticlihmbikcohaa.Va
