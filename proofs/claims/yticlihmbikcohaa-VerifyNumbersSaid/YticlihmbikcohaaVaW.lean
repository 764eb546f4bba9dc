/- append, against the interpreter's -/
import Derived.Test.YticlihmbikcohaaVaV
import Derived.Deep.AppendSrc
import Derived.Deep.DeepAppendWide
namespace Go.Proofs.Yticlihmbikcohaa.Va
open Go Go.RowKit
set_option linter.unusedVariables false
set_option linter.unusedSimpArgs false
section
variable {P : Program} {T : Tab} {base : Nat} {c : Cx} {σ : St} {w : World}
theorem bytes_rep (s : ByteArray) {e : TypeId} (he : T.ty e = some (.int .u8)) : RepL T c (List.replicate (bytesAV s).length e) (bytesAV s) (byteCells s) := by
  unfold bytesAV byteCells
  rw [List.length_map]
  generalize s.data.toList = l
  induction l with
  | nil => exact .nil _
  | cons b l ih => exact .cons _ e _ _ _ _ [_] _ he (.int _ _ _) ih
theorem news_src (hT : TabOk P T) (hI : Inv T base c σ w) {row : Bool} {e tx : TypeId} {x : AV} {ys : List AV} {vx : Value} (he : ∃ d, T.ty e = some d) (h : @newsOf T ⟨σ⟩ row e x = some ys) (hr : RepT T c x vx) (htx : isRowT T tx = true) :
    ∃ news, Src P (T.size e) tx vx ys.length news w ∧ RepL T c (List.replicate ys.length e) ys news ∧ (row = false → RepL T c.closed (List.replicate ys.length e) ys news) := by
  have hk : (∃ e', P.underlying tx = some (.slice e')) ∨ P.underlying tx = some .string := by
    unfold isRowT at htx
    split at htx
    · rename_i e' h'
      obtain ⟨D, hu, _, hd⟩ := run_under hT w h'
      obtain rfl := desc_slice hd
      exact .inl ⟨_, hu⟩
    · rename_i h'
      obtain ⟨D, hu, _, hd⟩ := run_under hT w h'
      obtain rfl := desc_str hd
      exact .inr hu
    · cases htx
  have none_src : ∀ (a : Option Addr) (cap : Nat), Src P (T.size e) tx (.slice a 0 cap) 0 [] w := fun a cap => by
    refine ⟨hk, fun _ => rfl, ?_, ?_, by simp, fun _ h => by cases h⟩
    · cases a with
      | none => exact run_firstCells_none w _ 0 0 cap
      | some a => exact run_firstCells_some w _ 0 a 0 cap [] (by simp) (fun j u hj => by simp at hj)
    · cases a with
      | none => exact run_firstCells_none w.drew _ 0 0 cap
      | some a => exact run_firstCells_some w.drew _ 0 a 0 cap [] (by simp) (fun j u hj => by simp at hj)
  have some_src : ∀ (b o n cap : Nat) (cs : List Value), cs.length = n * T.size e → (∀ (j : Nat) u, cs[j]? = some u → w.cell? ⟨b, o + j, none⟩ = some u) → (∀ u ∈ cs, u.oneCell' = true) → Src P (T.size e) tx (.slice (some ⟨b, o, none⟩) n cap) n cs w := fun b o n cap cs hl hc h1 =>
    ⟨hk, fun _ => rfl, run_firstCells_some w _ n ⟨b, o, none⟩ n cap cs hl (fun j u hj => by rw [Addr.add_lit]; exact hc j u hj),
      run_firstCells_some w.drew _ n ⟨b, o, none⟩ n cap cs hl (fun j u hj => by rw [Addr.add_lit]; exact hc j u hj), hl, h1⟩
  have hlen : ∀ {cs : List Value} {zs : List AV} {c' : Cx}, RepL T c' (List.replicate zs.length e) zs cs → cs.length = zs.length * T.size e := fun hh => by rw [hh.len hT.sz, sum_replicate]
  unfold newsOf at h
  split at h
  · rename_i s
    split at h
    · rename_i h8
      simp only [Option.some.injEq] at h; subst h
      obtain rfl := rep_str hr
      have hs1 : T.size e = 1 := hT.sz e _ h8
      have hl : (bytesAV s).length = s.size := by rw [bytesAV, List.length_map, Array.length_toList]; rfl
      refine ⟨byteCells s, ?_, bytes_rep s h8, fun _ => bytes_rep s h8⟩
      rw [hs1, hl]
      exact ⟨hk, fun _ => rfl, firstCells_string s w, firstCells_string s w.drew, by rw [byteCells_length, Nat.mul_one], fun u hu => by
        obtain ⟨_, _, rfl⟩ := List.mem_map.1 hu
        rfl⟩
    · cases h
  · rename_i e' n xs tok
    split at h
    · rename_i h8
      subst h8
      simp only [Option.some.injEq] at h; subst h
      rcases rep_list hr with ⟨rfl, a, cap, rfl, _⟩ | ⟨hne, _, cs, b, o, cap, rfl, hL, hF, hcap, _⟩
      · exact ⟨[], none_src a cap, .nil _, fun _ => .nil _⟩
      · exact ⟨cs, some_src b o _ cap cs (hlen hL) (fun j u hj => hI.F _ _ _ (hF j u hj)) hL.one, hL.open, fun _ => hL⟩
    · cases h
  · simp only [Option.some.injEq] at h; subst h
    obtain ⟨a, rfl, _⟩ := rep_mt hr
    exact ⟨[], none_src a 0, .nil _, fun _ => .nil _⟩
  · rename_i e' id p off len
    split at h
    · rename_i h8
      subst h8
      obtain ⟨zs, hz, h⟩ := Option.bind_eq_some_iff.1 h
      split at h
      · rename_i hp
        simp only [Option.some.injEq] at h; subst h
        obtain ⟨a, cap, cs, rfl, _, hL, hnil, hcell⟩ := slice_read hT hI hz hr
        have hL := hL e' rfl
        refine ⟨cs, ?_, hL, fun hrow => ?_⟩
        · by_cases hx : zs = []
          · subst hx
            rw [hnil rfl]
            exact none_src a cap
          · obtain ⟨b, o, rfl, hc⟩ := hcell hx
            exact some_src b o _ cap cs (hlen hL) hc hL.one
        · subst hrow
          exact hL.close (by simpa using hp)
      · cases h
    · cases h
  · cases h
theorem run_append_none (w : World) (t tx ty e : TypeId) (i : TypeInfo) (ht : P.underlying t = some (.slice e)) (hi : P.info? e = some i) (a : Option Addr) (sLen sCap : Nat) (hle : sLen ≤ sCap) (x : Value) {news : List Value} (hs : Src P i.size tx x 0 news w) :
    (Builtin.append_ #[t, tx] ty #[.slice a sLen sCap, x]).run P w = .ok (.slice a sLen sCap) w := by
  have hn : news = [] := List.eq_nil_of_length_eq_zero (by rw [hs.newsLen]; simp)
  subst hn
  have hc := hs.cells
  rcases hs.kind with ⟨e', hk⟩ | hk <;> cases a <;> simp [Builtin.append_, run_underlying ht, run_underlying hk, sizeOf, typeInfo, hi, hs.len, hle, hc, storeCells]
theorem run_append_room' (w : World) (t tx ty e : TypeId) (i : TypeInfo) (ht : P.underlying t = some (.slice e)) (hi : P.info? e = some i) (g sLen sCap : Nat) (cur : Array Value) (hg : w.heap[g]? = some (.cells cur e (0, 0))) (x : Value) (n : Nat) {news : List Value} (hs : Src P i.size tx x n news w)
    (hroom : sLen + n ≤ sCap) (hfit : sLen * i.size + news.length ≤ cur.size) :
    (Builtin.append_ #[t, tx] ty #[.slice (some ⟨g, 0, none⟩) sLen sCap, x]).run P w =
      .ok (.slice (some ⟨g, 0, none⟩) (sLen + n) sCap) (w.setRow g (cur.toList.take (sLen * i.size) ++ news ++ cur.toList.drop (sLen * i.size + news.length)).toArray) := by
  have hst := run_storeCells_at P g (sLen * i.size) e news 0 cur w hg (by simpa using hfit) hs.one
  simp only [Nat.add_zero] at hst
  rcases hs.kind with ⟨e', hk⟩ | hk <;> simp [Builtin.append_, run_underlying ht, run_underlying hk, sizeOf, typeInfo, hi, hs.len, hroom, hs.cells, Addr.add_lit, hst]
theorem roomy_spec {e : TypeId} {n : Nat} (h : roomy T e n = true) : n ≤ most ∧ n * T.bytes e ≤ most := by
  simpa [roomy] using h
/-- A grown row. -/
theorem run_grow (hT : TabOk P T) (hI : Inv T base c σ w) {t tx ty e : TypeId} {d : Ty} (ht : P.underlying t = some (.slice e)) (he : T.ty e = some d) {a : Option Addr} {sLen sCap n : Nat} {olds news : List Value} {x : Value}
    (hold : (Builtin.firstCells (T.size e) sLen (.slice a sLen sCap)).run P w.drew = .ok olds.toArray w.drew) (hol : olds.length = sLen * T.size e) (hs : Src P (T.size e) tx x n news w) (hg : sCap < sLen + n) (hr : roomy T e (sLen + n) = true) :
    ∃ cap tail, (Builtin.append_ #[t, tx] ty #[.slice a sLen sCap, x]).run P w = .ok (.slice (some ⟨w.heap.size, 0, none⟩) (sLen + n) cap) (w.drew.alloc (.cells (olds ++ news ++ tail).toArray e)) ∧
      sLen + n ≤ cap ∧ cap ≤ maxLen ∧ (olds ++ news ++ tail).length = cap * T.size e := by
  obtain ⟨i, z, g1, g2, g3, g4, g5, g6, g7⟩ := hT.info e d he
  obtain ⟨r1, r2⟩ := roomy_spec hr
  have hmost : most = 200000000000000 := rfl
  have hl := (g6 c).len hT.sz
  rw [← hT.sz e d he] at hl
  have hz : z.cells.size = T.size e := by simpa using hl
  have hfit : Builtin.nextslicecap (sLen + n) sCap * i.bytes ≤ 281474976710656 := by
    refine growslice_fits_wide hg ?_
    rw [g3, Nat.add_mul, Nat.add_mul]
    have : (sLen + n) / 4 * T.bytes e ≤ ((sLen + n) * T.bytes e) / 4 := by
      rw [Nat.le_div_iff_mul_le (by omega), Nat.mul_right_comm]
      exact Nat.mul_le_mul_right _ (Nat.div_mul_le_self _ _)
    omega
  have hrun := run_append_grow_src w t tx ty e i z ht g1 g5 a sLen sCap olds (by rw [g2]; exact hold) x n news (by rw [g2]; exact hs) hg (by omega) hfit
  have hml : sLen + n ≤ maxLen := by simp only [maxLen]; omega
  have hge := grownCap_ge w (sLen + n) sCap e
  refine ⟨grownCap w (sLen + n) sCap e, (Builtin.zeroCells z.cells (grownCap w (sLen + n) sCap e - (sLen + n))).toList, ?_, hge, grownCap_le_maxLen w _ _ e hml, ?_⟩
  · rw [hrun]
    congr 3
    apply Array.ext'
    simp
  · rw [List.length_append, List.length_append, hol, hs.newsLen, Array.length_toList, size_zeroCells, hz, ← Nat.add_mul, ← Nat.add_mul]
    congr 1
    omega
theorem cxOf {c : Cx} {b : Nat} {n : Nat} {cs : List Value} {s : Option Addr × Nat × Nat × TypeId} : (c.newRow b n cs s).τ c.ntok = s := if_pos rfl
theorem Inv.drew (h : Inv T base c σ w) : Inv T base c σ w.drew := h.heap rfl
/-- A grown row, as a list. -/
theorem grown_list (hT : TabOk P T) (hI : Inv T base c σ w) {e : TypeId} {d : Ty} (he : T.ty e = some d) {zs : List AV} {cs tail : List Value} {cap : Nat} (hL : RepL T c.closed (List.replicate zs.length e) zs cs) (hcap : zs.length ≤ cap) (hmax : cap ≤ maxLen) (hsz : (cs ++ tail).length = cap * T.size e) (tk : Option Nat) :
    ∃ c', Fwd base c c' w (w.drew.alloc (.cells (cs ++ tail).toArray e)) ∧ Inv T base c' (σ.tokNew tk) (w.drew.alloc (.cells (cs ++ tail).toArray e)) ∧ RepT T c' (.list e false zs (some (σ.ntok + 1))) (.slice (some ⟨w.heap.size, 0, none⟩) zs.length cap) := by
  have hl : cs.length = zs.length * T.size e := by rw [hL.len hT.sz, sum_replicate]
  obtain ⟨h1, h2⟩ := hI.drew.newRow (n := cs.length) (len := zs.length) (cap := cap) (cs := cs) (e := e) (cur := (cs ++ tail).toArray) tk (fun o ho => by simp [List.getElem?_append_left ho]) rfl hl (by simpa using hsz) hcap hmax
  refine ⟨_, ⟨h2, ((Below.refl _ _).drew).alloc hI.le _, fun b hb o => ?_, fun _ _ => rfl⟩, h1, Rep1.toT (RepV.row (hL.ext h2.closed) (fun j v hj => ?_) hcap ?_)⟩
  · have := hI.le
    exact if_neg (by rintro ⟨rfl, _⟩; exact absurd hb (by show ¬ w.heap.size < base; omega))
  · exact (if_pos ⟨rfl, (List.getElem?_eq_some_iff.1 hj).1⟩).trans hj
  · exact ⟨by rw [← hI.ntok]; exact Nat.lt_succ_self _, by rw [← hI.ntok]; exact cxOf⟩
theorem rep_app {e : TypeId} : ∀ {xs ys : List AV} {cs ds : List Value}, RepL T c (List.replicate xs.length e) xs cs → RepL T c (List.replicate ys.length e) ys ds → RepL T c (List.replicate (xs ++ ys).length e) (xs ++ ys) (cs ++ ds)
  | [], ys, cs, ds, h, g => by cases h; exact g
  | x :: xs, ys, cs, ds, h, g => by
    simp only [List.length_cons, List.replicate_succ] at h
    cases h with
    | cons _ _ d _ _ _ c1 c2 ht h1 h2 =>
      rw [List.append_assoc]
      exact .cons _ e d _ x _ c1 _ ht h1 (rep_app h2 g)
theorem Inv.tokFull (hI : Inv T base c σ w) (tk : Option Nat) {a : Option Addr} {n : Nat} {e : TypeId} : Inv T base (c.tokOnly (a, n, n, e)) (σ.tokNew tk) w ∧ Fwd base c (c.tokOnly (a, n, n, e)) w w := by
  have hb : tokBlk (a, n, n, e) = none := by simp [tokBlk]
  exact ⟨hI.tokOnly tk (.inl rfl) (fun b o _ => by rw [hb]; simp) (fun id ob _ => by rw [hb]; simp) (fun t _ _ b h => by rw [hb] at h; cases h), .tokOnly _, .refl _ _, fun _ _ _ => rfl, fun _ _ => rfl⟩
theorem first_zero (size : Nat) (a : Option Addr) (cap : Nat) : (Builtin.firstCells size 0 (.slice a 0 cap)).run P w = .ok ([] : List Value).toArray w := by
  cases a with
  | none => exact run_firstCells_none w _ 0 0 cap
  | some a => exact run_firstCells_some w _ 0 a 0 cap [] (by simp) (fun j u hj => by simp at hj)
theorem tokC {c : Cx} {s : Option Addr × Nat × Nat × TypeId} : c.ntok < (c.tokOnly s).ntok ∧ (c.tokOnly s).τ c.ntok = s := ⟨Nat.lt_succ_self _, if_pos rfl⟩
theorem sd_append (hT : TabOk P T) (hI : Inv T base c σ w) {row : Bool} {t tx ty : TypeId} {s x r : AV} {σ' : St} {vs vx : Value} (h : @aAppend T ⟨σ⟩ ⟨σ⟩ row t s x = some (r, σ')) (htx : isRowT T tx = true) (hs : RepT T c s vs) (hx : RepT T c x vx) :
    ∃ c' y w', (Builtin.append_ #[t, tx] ty #[vs, vx]).run P w = .ok y w' ∧ Fwd base c c' w w' ∧ Inv T base c' σ' w' ∧ RepT T c' r y := by
  unfold aAppend at h
  split at h
  · rename_i e ht
    obtain ⟨de, he⟩ := hT.elem t e ht
    obtain ⟨D, hu, _, hd⟩ := run_under hT w ht
    obtain rfl := desc_slice hd
    obtain ⟨i, z, g1, g2, g3, g4, g5, g6, g7⟩ := hT.info e de he
    split at h
    · rename_i b
      obtain ⟨ys, hy, h⟩ := Option.bind_eq_some_iff.1 h
      obtain ⟨news, k1, k2, k3⟩ := news_src hT hI ⟨de, he⟩ hy hx htx
      obtain ⟨a, rfl, ha⟩ := rep_mt hs
      split at h
      · rename_i hroom
        by_cases hys : ys = []
        · subst hys
          split at h
          · simp at h
          · simp only [List.isEmpty_nil, Bool.and_true, Option.some.injEq, Prod.mk.injEq] at h
            obtain ⟨rfl, rfl⟩ := h
            obtain ⟨m1, m2⟩ := hI.tokFull none (a := a) (n := 0) (e := e)
            refine ⟨_, _, _, run_append_none w t tx ty e i hu g1 a 0 0 (Nat.le_refl _) vx (by rw [g2]; exact k1), m2, m1, Rep1.toT ⟨_, .list0 _ e b a 0 _ ha ?_, rfl⟩⟩
            rw [← hI.ntok]; exact tokC
        · have hlen : 0 < ys.length := List.length_pos_iff.2 hys
          have hemp : ys.isEmpty = false := by cases ys <;> simp_all
          obtain ⟨cap, tail, q1, q2, q3, q4⟩ := run_grow (c := c) hT hI (ty := ty) hu he (first_zero (w := w.drew) (T.size e) a 0) (by simp) k1 (by omega) (by rw [Nat.zero_add]; exact hroom)
          rw [Nat.zero_add] at q1 q2
          rw [List.nil_append] at q1 q4
          split at h
          · rw [hemp] at h
            simp only [Bool.false_eq_true, if_false, Option.some.injEq, Prod.mk.injEq] at h
            obtain ⟨rfl, rfl⟩ := h
            obtain ⟨c', m1, m2, m3⟩ := sd_row_view hT hI.drew (tail := tail) he k2 q2
            exact ⟨c', _, _, q1, ⟨m1.ext, ((Below.refl _ _).drew).trans m1.below, m1.F, m1.G⟩, m2, m3⟩
          · rename_i hrow
            rw [hemp] at h
            simp only [Bool.and_false, Option.some.injEq, Prod.mk.injEq] at h
            obtain ⟨rfl, rfl⟩ := h
            obtain ⟨c', m1, m2, m3⟩ := grown_list hT hI he (k3 (by simpa using hrow)) q2 q3 q4 none
            exact ⟨c', _, _, q1, m1, m2, m3⟩
      · cases h
    · rename_i e' b xs
      obtain ⟨ys, hy, h⟩ := Option.bind_eq_some_iff.1 h
      obtain ⟨news, k1, k2, k3⟩ := news_src hT hI ⟨de, he⟩ hy hx htx
      split at h
      · rename_i hc
        obtain ⟨rfl, hroom⟩ := hc
        split at h
        · rename_i hrv
          simp only [Bool.and_eq_true, Bool.not_eq_true', List.isEmpty_iff] at hrv
          simp only [Option.some.injEq, Prod.mk.injEq] at h
          obtain ⟨rfl, rfl⟩ := h
          obtain ⟨⟨hrow, rfl⟩, hemp⟩ := hrv
          have hlen : 0 < ys.length := by cases ys with | nil => cases hemp | cons => simp
          rcases rep_list hs with ⟨_, a, cap, rfl, ha, hk⟩ | ⟨hne, _⟩
          · obtain rfl : cap = 0 := hk
            obtain ⟨cap, tail, q1, q2, q3, q4⟩ := run_grow (c := c) hT hI (ty := ty) hu he (first_zero (w := w.drew) (T.size e') a 0) (by simp) k1 (by omega) hroom
            rw [Nat.zero_add] at q1 q2
            rw [List.nil_append] at q1 q4
            obtain ⟨c', m1, m2, m3⟩ := sd_row_view hT hI.drew (tail := tail) he k2 q2
            exact ⟨c', _, _, q1, ⟨m1.ext, ((Below.refl _ _).drew).trans m1.below, m1.F, m1.G⟩, m2, m3⟩
          · exact absurd rfl hne
        rename_i hrv
        simp only [Option.some.injEq, Prod.mk.injEq] at h
        obtain ⟨rfl, rfl⟩ := h
        have k4 : RepL T c.closed (List.replicate ys.length e') ys news := by
          by_cases hys : ys = []
          · subst hys
            have : news = [] := List.eq_nil_of_length_eq_zero (by rw [k1.newsLen]; simp)
            subst this
            exact .nil _
          · refine k3 ?_
            cases hh : (row && xs.isEmpty)
            · rfl
            · exact absurd (by rw [hh]; cases ys with | nil => exact absurd rfl hys | cons => rfl) hrv
        clear k3
        rcases rep_list hs with ⟨rfl, a, cap, rfl, ha, hk⟩ | ⟨hne, rfl, cs, g, o, cap, rfl, hL, hF, hcap, hk⟩
        · obtain rfl : cap = 0 := hk
          by_cases hys : ys = []
          · subst hys
            obtain ⟨m1, m2⟩ := hI.tokFull none (a := a) (n := 0) (e := e')
            refine ⟨_, _, _, run_append_none w t tx ty e' i hu g1 a 0 0 (Nat.le_refl _) vx (by rw [g2]; exact k1), m2, m1, Rep1.toT ⟨_, .list0 _ e' _ a 0 _ (by simpa using ha) ?_, rfl⟩⟩
            rw [← hI.ntok]; exact tokC
          · have hlen : 0 < ys.length := List.length_pos_iff.2 hys
            have hemp : ys.isEmpty = false := by cases ys <;> simp_all
            obtain ⟨cap, tail, q1, q2, q3, q4⟩ := run_grow (c := c) hT hI (ty := ty) hu he (first_zero (w := w.drew) (T.size e') a 0) (by simp) k1 (by omega) hroom
            rw [Nat.zero_add] at q1 q2
            rw [List.nil_append] at q1 q4
            obtain ⟨c', m1, m2, m3⟩ := grown_list hT hI he k4 q2 q3 q4 none
            rw [hemp, Bool.and_false]
            exact ⟨c', _, _, q1, m1, m2, m3⟩
        · obtain rfl : cap = xs.length := hk
          have hcl : cs.length = xs.length * T.size e' := by rw [hL.len hT.sz, sum_replicate]
          by_cases hys : ys = []
          · subst hys
            obtain ⟨m1, m2⟩ := hI.tokFull none (a := some ⟨g, o, none⟩) (n := xs.length) (e := e')
            have e1 : (false && ([] : List AV).isEmpty) = false := rfl
            rw [e1, List.append_nil]
            refine ⟨_, _, _, run_append_none w t tx ty e' i hu g1 _ _ _ (Nat.le_refl _) vx (by rw [g2]; exact k1), m2, m1, Rep1.toT ⟨_, .list _ e' xs cs g o _ _ (hL.ext m2.ext.closed) hF hne (Nat.le_refl _) ?_, rfl⟩⟩
            rw [← hI.ntok]; exact tokC
          · have hlen : 0 < ys.length := List.length_pos_iff.2 hys
            have hold : (Builtin.firstCells (T.size e') xs.length (.slice (some ⟨g, o, none⟩) xs.length xs.length)).run P w.drew = .ok cs.toArray w.drew :=
              run_firstCells_some w.drew _ _ ⟨g, o, none⟩ _ _ cs hcl (fun j u hj => by rw [Addr.add_lit]; exact hI.F _ _ _ (hF j u hj))
            obtain ⟨cap, tail, q1, q2, q3, q4⟩ := run_grow (c := c) hT hI (ty := ty) hu he hold hcl k1 (by omega) hroom
            rw [← List.length_append] at q1 q2
            obtain ⟨c', m1, m2, m3⟩ := grown_list hT hI he (rep_app hL k4) q2 q3 q4 none
            exact ⟨c', _, _, q1, m1, m2, m3⟩
      · cases h
    · rename_i e' b xs tk
      obtain ⟨ys, hy, h⟩ := Option.bind_eq_some_iff.1 h
      obtain ⟨news, k1, k2, k3⟩ := news_src hT hI ⟨de, he⟩ hy hx htx
      split at h
      · rename_i hc
        obtain ⟨rfl, hlive, hroom⟩ := hc
        simp only [Option.some.injEq, Prod.mk.injEq] at h
        obtain ⟨rfl, rfl⟩ := h
        have k3 := k3 rfl
        have hlive : σ.live tk = true := hlive
        obtain ⟨t1, t2⟩ := hI.tok tk hlive
        -- the slice, its cells
        obtain ⟨a, cap, cs, rfl, hL, hcell, hcap, hk, hrep, hnil⟩ : ∃ a cap cs, vs = .slice a xs.length cap ∧ RepL T c.closed (List.replicate xs.length e') xs cs ∧ (xs ≠ [] → ∃ g o, a = some ⟨g, o, none⟩ ∧ ∀ (j : Nat) v, cs[j]? = some v → c.F g (o + j) = some v) ∧ xs.length ≤ cap ∧ c.τ tk = (a, xs.length, cap, e') ∧
            (∀ c' : Cx, Ext c c' → ∀ k, TokOk c' (some k) a xs.length cap e' → RepT T c' (.list e' b xs (some k)) (.slice a xs.length cap)) ∧ (xs ≠ [] → b = false) := by
          rcases rep_list hs with ⟨rfl, a, cap, rfl, ha, hk⟩ | ⟨hne, rfl, cs, g, o, cap, rfl, hL, hF, hcap, hk⟩
          · exact ⟨a, cap, [], rfl, .nil _, fun h => absurd rfl h, Nat.zero_le _, hk.2, fun c' _ k hk' => Rep1.toT ⟨_, .list0 _ e' b a cap _ ha hk', rfl⟩, fun h => absurd rfl h⟩
          · exact ⟨_, cap, cs, rfl, hL, fun _ => ⟨g, o, rfl, hF⟩, hcap, hk.2, fun c' hx k hk' => Rep1.toT ⟨_, .list _ e' xs cs g o cap _ (hL.ext hx.closed) (fun j v hj => hx.F _ _ _ (hF j v hj)) hne hcap hk', rfl⟩, fun _ => rfl⟩
        have hcl : cs.length = xs.length * T.size e' := by rw [hL.len hT.sz, sum_replicate]
        rw [hk] at t2
        by_cases hys : ys = []
        · subst hys
          have hb : ∀ id ob, σ.obj id = some ob → tokBlk (a, xs.length, cap, e') ≠ some (c.μ id) := fun id ob hob => by rw [← hk]; exact hI.tokObj tk id ob hlive hob
          have m1 := hI.tokOnly (some tk) t2 (fun b o hg => by rw [← hk]; exact (hI.G b o hg).tok tk hlive) hb (fun t' ht' hne b' hb' => hI.tokTok tk t' hlive ht' (fun e => hne (by rw [e])) b' (by rw [hk]; exact hb'))
          have m2 : Ext c (c.tokOnly (a, xs.length, cap, e')) := .tokOnly _
          rw [List.append_nil, show (b && ([] : List AV).isEmpty) = b by simp]
          refine ⟨_, _, _, run_append_none w t tx ty e' i hu g1 a _ _ hcap vx (by rw [g2]; exact k1), ⟨m2, .refl _ _, fun _ _ _ => rfl, fun _ _ => rfl⟩, m1, hrep _ m2 _ ?_⟩
          rw [← hI.ntok]; exact tokC
        · have hlen : 0 < ys.length := List.length_pos_iff.2 hys
          have hemp : ys.isEmpty = false := by cases ys <;> simp_all
          rw [hemp, Bool.and_false]
          by_cases hrm : xs.length + ys.length ≤ cap
          · -- in place
            rcases t2 with t2 | ⟨g, cur, p1, p2, p3, p4, p5, p6, p7⟩
            · simp only at t2; omega
            · simp only at p1 p2 p3 p4 p5 p6 p7
              subst p1
              have hnl := k1.newsLen
              have hfit : xs.length * T.size e' + news.length ≤ cur.size := by rw [p3, hnl, ← Nat.add_mul]; exact Nat.mul_le_mul_right _ hrm
              have hrun := run_append_room' w t tx ty e' i hu g1 g xs.length cap cur p2 vx ys.length (by rw [g2]; exact k1) hrm (by rw [g2]; exact hfit)
              rw [g2] at hrun
              have hcur : ∀ (j : Nat) v, cs[j]? = some v → cur[j]? = some v := fun j v hj => by
                have hx : xs ≠ [] := by rintro rfl; simp at hcl; subst hcl; simp at hj
                obtain ⟨g', o', e1, e2⟩ := hcell hx
                cases e1
                have := hI.F _ _ _ (e2 j v hj)
                simpa [World.cell?, p2] using this
              have hFb : ∀ o v, c.F g o = some v → o < cs.length → cs[o]? = some v := fun o v hv ho => by
                have hx : xs ≠ [] := by rintro rfl; simp at hcl; subst hcl; simp at ho
                obtain ⟨g', o', e1, e2⟩ := hcell hx
                cases e1
                obtain ⟨v', hv'⟩ : ∃ v', cs[o]? = some v' := ⟨_, List.getElem?_eq_getElem ho⟩
                have := e2 o v' hv'
                rw [Nat.zero_add, hv] at this
                cases this; exact hv'
              have hpre : (List.take (xs.length * T.size e') cur.toList) = cs := by
                apply List.ext_getElem?
                intro j
                rw [List.getElem?_take]
                by_cases hj : j < xs.length * T.size e'
                · rw [if_pos hj]
                  obtain ⟨v', hv'⟩ : ∃ v', cs[j]? = some v' := ⟨_, List.getElem?_eq_getElem (by omega)⟩
                  rw [Array.getElem?_toList, hcur j v' hv', hv']
                · rw [if_neg hj, List.getElem?_eq_none (by omega)]
              rw [hpre] at hrun
              have hblk : tokBlk (c.τ tk) = some g := by
                rw [hk]
                simp only [tokBlk]
                rw [if_neg (by omega)]
                rfl
              have hzl : (xs ++ ys).length = xs.length + ys.length := List.length_append
              have hgl : g < w.heap.size := lt_of_some p2
              have hcnl : (cs ++ news).length = (xs ++ ys).length * T.size e' := by rw [List.length_append, hcl, hnl, hzl, Nat.add_mul]
              have hlay := hI.lay (w' := w.setRow g (cs ++ news ++ List.drop (xs.length * T.size e' + news.length) cur.toList).toArray) (b := g) (n := (cs ++ news).length) (len := (xs ++ ys).length) (cap := cap) (cs := cs ++ news) (e := e') (cur := (cs ++ news ++ List.drop (xs.length * T.size e' + news.length) cur.toList).toArray) (some tk)
                (setRow_heap w _ _ _ _ _ p2) p4 (fun g' _ hne => setRow_other w _ hne) (by simp [World.setRow])
                (fun o v ho hv => by
                  by_cases hlt : o < cs.length
                  · rw [List.getElem?_append_left hlt]; exact hFb o v hv hlt
                  · rw [p7 o (by omega)] at hv; cases hv)
                (fun o ho => p7 o (by rw [List.length_append] at ho; omega))
                (fun o ho => by simp only [List.getElem?_toArray]; rw [List.getElem?_append_left ho])
                rfl hcnl
                (by simp only [List.size_toArray, List.length_append, List.length_drop, Array.length_toList]; rw [← p3]; omega) (by omega) p6 (by
                  cases hg : c.G g with
                  | none => rfl
                  | some o => exact absurd (by rw [hblk]) ((hI.G g o hg).tok tk hlive))
                (fun id ob hob e => hI.tokObj tk id ob hlive hob (by rw [hblk, e]))
                (fun t' ht' hne hb' => hI.tokTok tk t' hlive ht' (fun e => hne (by rw [e])) g hblk hb')
              have hx : Ext c (c.newRow g (cs ++ news).length (cs ++ news) (some ⟨g, 0, none⟩, (xs ++ ys).length, cap, e')) := .newRow (fun o v ho hv => by
                  by_cases hlt : o < cs.length
                  · rw [List.getElem?_append_left hlt]; exact hFb o v hv hlt
                  · rw [p7 o (by omega)] at hv; cases hv)
              rw [← hzl] at hrun
              refine ⟨_, _, _, hrun, ⟨hx, Below.row p4 _, fun b' hb' o => if_neg (by rintro ⟨rfl, _⟩; omega), fun _ _ => rfl⟩, hlay, Rep1.toT (RepV.row ((rep_app hL k3).ext hx.closed) (fun j v hj => (if_pos ⟨rfl, (List.getElem?_eq_some_iff.1 hj).1⟩).trans hj) (by omega) ?_)⟩
              exact ⟨by rw [← hI.ntok]; exact Nat.lt_succ_self _, by rw [← hI.ntok]; exact cxOf⟩
          · have hold : (Builtin.firstCells (T.size e') xs.length (.slice a xs.length cap)).run P w.drew = .ok cs.toArray w.drew := by
              by_cases hx : xs = []
              · subst hx
                obtain rfl : cs = [] := List.eq_nil_of_length_eq_zero (by rw [hcl]; simp)
                exact first_zero _ _ _
              · obtain ⟨g, o, rfl, hF⟩ := hcell hx
                exact run_firstCells_some w.drew _ _ ⟨g, o, none⟩ _ _ cs hcl (fun j u hj => by rw [Addr.add_lit]; exact hI.F _ _ _ (hF j u hj))
            obtain ⟨cap, tail, q1, q2, q3, q4⟩ := run_grow (c := c) hT hI (ty := ty) hu he hold hcl k1 (by omega) hroom
            rw [← List.length_append] at q1 q2
            obtain ⟨c', m1, m2, m3⟩ := grown_list hT hI he (rep_app hL k3) q2 q3 q4 (some tk)
            exact ⟨c', _, _, q1, m1, m2, m3⟩
      · cases h
    · cases h
  · cases h
theorem rep_split {e : TypeId} : ∀ {xs ys : List AV} {cs : List Value}, RepL T c (List.replicate (xs ++ ys).length e) (xs ++ ys) cs → ∃ c1 c2, cs = c1 ++ c2 ∧ RepL T c (List.replicate xs.length e) xs c1 ∧ RepL T c (List.replicate ys.length e) ys c2
  | [], ys, cs, h => ⟨[], cs, rfl, .nil _, h⟩
  | x :: xs, ys, cs, h => by
    simp only [List.cons_append, List.length_cons, List.replicate_succ] at h
    cases h with
    | cons _ _ d _ _ _ c1 c2 ht h1 h2 =>
      obtain ⟨a, b, rfl, ha, hb⟩ := rep_split h2
      exact ⟨c1 ++ a, b, by rw [List.append_assoc], .cons _ e d _ x _ c1 _ ht h1 ha, hb⟩
theorem rep_ints {e : TypeId} {d : Ty} {k : IntKind} {n : Int} (he : T.ty e = some d) (h : RepV T c d (.int k n) [.int k n]) : ∀ m, RepL T c (List.replicate m e) (List.replicate m (.int k n)) (List.replicate m (.int k n))
  | 0 => .nil _
  | m + 1 => by
    rw [List.replicate_succ, List.replicate_succ, List.replicate_succ]
    exact .cons _ e d _ _ _ [_] _ he h (rep_ints he h m)
theorem sd_clearRow (hT : TabOk P T) (hI : Inv T base c σ w) {t ty e : TypeId} {id : Nat} {path : List Nat} {off len : Nat} {y : Value} {σ' : St} (h : @aClearRow T ⟨σ⟩ t e id path off len = some σ') (hx : RepT T c (.view e id path off len) y) :
    ∃ w', (Builtin.clear_ #[t] ty #[y]).run P w = .ok (.tuple #[]) w' ∧ Fwd base c c w w' ∧ Inv T base c σ' w' := by
  unfold aClearRow at h
  split at h
  · rename_i e' kk k n e'' vs ht he hz ho
    split at h
    · rename_i hc
      obtain ⟨rfl, rfl, hlen, hle⟩ := hc
      simp only [Option.some.injEq] at h
      subst h
      have ho : σ.obj id = some (.cells e'' vs) := ho
      obtain ⟨o, cap, rfl, hid, hl, hcap⟩ := rep_view hx
      obtain ⟨i1, i2, i3, hee, ⟨de, hde⟩, cs, tail, hh, hcs⟩ := hI.obj id _ ho
      simp only [Tab.rowLoc, hee, he, Option.isSome_some, if_true, Option.some.injEq, Prod.mk.injEq] at hl
      obtain ⟨rfl, _⟩ := hl
      obtain ⟨D, hu, _, hd⟩ := run_under hT w ht
      obtain rfl := desc_slice hd
      obtain ⟨z, hzr, hzz⟩ := zero_rep (P := P) (T := T) (c := c) (w := w) hT he
      rw [hz] at hzz
      have hzi : RepT T c (.int k n) z := hzz
      obtain rfl := rep_int hzi
      obtain ⟨dd, hdd, haa⟩ := hzi
      have hs1 : T.size e'' = 1 := hT.sz e'' _ he
      obtain ⟨d2, hd2, hrv, _⟩ := hzz.fit (e := e'') (by
        obtain ⟨i, z', g1, g2, g3, g4, g5, g6, g7⟩ := hT.info e'' _ he
        have := g6 c
        rw [hz] at this
        generalize hzc : z'.cells.toList = zc at this
        cases this with
        | int _ _ _ => simp [fits, he])
      have e0 : vs = vs.take off ++ ((vs.drop off).take len ++ (vs.drop off).drop len) := by rw [List.take_append_drop, List.take_append_drop]
      have hcs0 := hcs
      rw [e0] at hcs
      obtain ⟨a, r, rfl, ha, hr⟩ := rep_split hcs
      obtain ⟨b, d, rfl, hb, hd'⟩ := rep_split hr
      have la : a.length = off := by rw [ha.len hT.sz, sum_replicate, hs1]; simp; omega
      have lb : b.length = len := by rw [hb.len hT.sz, sum_replicate, hs1]; simp; omega
      have hzc : (Builtin.zeroCells (Value.int k n).cells len).toList = List.replicate len (Value.int k n) := by
        have : (Value.int k n).cells = #[Value.int k n] := rfl
        rw [this]
        simp [Builtin.zeroCells]
        apply List.ext_getElem
        · simp
        · intro i h1 h2
          simp [Nat.mod_one]
      have m4 := Spl.mid a b (List.replicate len (.int k n)) d (by rw [List.length_replicate, lb])
      have hb' : off + (List.replicate len (Value.int k n)).length ≤ ((a ++ (b ++ d)) ++ tail).toArray.size := by
        simp only [List.size_toArray, List.length_append, List.length_replicate, la, lb]; omega
      have hst := run_storeCells_at P (c.μ id) off e'' (List.replicate len (Value.int k n)) 0 ((a ++ (b ++ d)) ++ tail).toArray w hh (by simpa using hb') (fun u hu => by rw [List.eq_of_mem_replicate hu]; rfl)
      have hq : (List.take (off + 0) ((a ++ (b ++ d)) ++ tail).toArray.toList ++ List.replicate len (Value.int k n) ++ List.drop (off + 0 + (List.replicate len (Value.int k n)).length) ((a ++ (b ++ d)) ++ tail).toArray.toList) = (a ++ (List.replicate len (Value.int k n) ++ d)) ++ tail := by
        rw [← m4.row tail]; simp [la]
      rw [hq] at hst
      refine ⟨w.setRow (c.μ id) ((a ++ (List.replicate len (Value.int k n) ++ d)) ++ tail).toArray, ?_, ⟨.refl c, Below.row i2 _, fun _ _ _ => rfl, fun _ _ => rfl⟩, hI.set ho (fun b hb => setRow_other w _ hb) (by simp [World.setRow]) (setRow_heap w _ _ _ _ _ hh) ?_⟩
      · obtain ⟨m, rfl⟩ : ∃ m, len = m + 1 := ⟨len - 1, by omega⟩
        have hst' : (storeCells ⟨c.μ id, 0 + off * T.size e'', none⟩ (Builtin.zeroCells (Value.int k n).cells (m + 1)).toList).run P w = .ok () (w.setRow (c.μ id) ((a ++ (List.replicate (m + 1) (Value.int k n) ++ d)) ++ tail).toArray) := by
          rw [hzc, hs1, Nat.mul_one, Nat.zero_add]
          simpa using hst
        rw [Nat.zero_add] at hst'
        simp only [List.append_assoc] at hst'
        simp [Builtin.clear_, run_underlying hu, hzr, hst']
      · refine ⟨hee, ⟨de, hde⟩, _, tail, rfl, ?_⟩
        have hB : RepL T c (List.replicate ((vs.drop off).drop len).length e'') ((vs.drop off).drop len) d := hd'
        rw [List.drop_drop] at hB
        rw [he] at hd2
        cases hd2
        have hA := rep_app (rep_ints he hrv len |> fun h => (by simpa using h : RepL T c (List.replicate (List.replicate len (AV.int k n)).length e'') (List.replicate len (AV.int k n)) (List.replicate len (Value.int k n)))) hB
        exact rep_app ha hA
    · cases h
  · cases h
end
end Go.Proofs.Yticlihmbikcohaa.Va
