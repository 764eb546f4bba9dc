/- the document's answer for grace, 2: Enter, Leave, IsOpen, Defer, Tick -/
import Derived.Test.YtddheambeefhpaaGrRef
namespace Go.Proofs.Ytddheambeefhpaa.Gr
open Go.RowKit Go.Proofs.Ytddheambeefhpaa.Own
set_option linter.unusedVariables false
set_option linter.unusedSimpArgs false

def rEnter (o : List Int) (n : Int) : List Int × Int := if n < 0 ∨ 7 < n then (o, 1) else if n ∈ o then (o, 9) else (o ++ [n], 0)
def EnterPost (w : World) (o : List Int) (vi : Value) (n : Int) (e : Ending) (w' : World) : Prop := ∃ v, e = .returned (.tuple #[.agg #[v, vi], .int .i64 (rEnter o n).2]) ∧ IRow w' v (rEnter o n).1 ∧ TFr 0 [] w w'
set_option maxRecDepth 100000 in
theorem renter_calls (o : List Int) (vo : Value) (A1 : Option Addr) (n1 c1 : Nat) (n : Int) (w : World) (h : IRow w vo o) (hl : o.length ≤ 100000) : Calls Try.prog 16 #[.agg #[vo, .slice A1 n1 c1], .int .i64 n] w (EnterPost w o (.slice A1 n1 c1) n) := by
  obtain ⟨A, c, rfl⟩ := h.slice
  obtain ⟨i0, hi0, hz0, hz1, hz2⟩ := info_parts infoInt
  have HO := hide h; clear h
  unfold EnterPost rEnter
  by_cases h1 : n < 0 ∨ 7 < n
  · rw [if_pos h1]
    go_enter Try.func16, Try.ntmps16
    go_wp2
    all_goals
      refine bodyPost_ret (results_ct rfl _ _ _ 41 _ _ rfl (Blk.at _ _ (by simp)) Try.underlying41 rfl (by kernel_rfl)) rfl ?_
      exact ⟨_, rfl, (unhide HO).tfr (((TFr.refl 0 [] w).alloc _).alloc _) (by decide), ((TFr.refl _ _ _).alloc _).alloc _⟩
  · rw [if_neg h1]
    by_cases h2 : n ∈ o
    · rw [if_pos h2]
      have hd : decide (n ∈ o) = true := decide_eq_true h2
      clear h2
      go_enter Try.func16, Try.ntmps16
      go_wp2_with (go_at_call 24; refine (in_calls o _ n _ ((unhide HO).tfr (((TFr.refl 0 [] w).alloc _).alloc _) (by decide)) (by omega)).mono ?_; rintro e w' ⟨rfl, rfl⟩; rw [hd])
      refine bodyPost_ret (results_ct rfl _ _ _ 41 _ _ rfl (Blk.at _ _ (by simp)) Try.underlying41 rfl (by kernel_rfl)) rfl ?_
      exact ⟨_, rfl, (unhide HO).tfr (((TFr.refl 0 [] w).alloc _).alloc _) (by decide), ((TFr.refl _ _ _).alloc _).alloc _⟩
    · rw [if_neg h2]
      have hd : decide (n ∈ o) = false := decide_eq_false h2
      clear h2
      go_enter Try.func16, Try.ntmps16
      go_wp2_with (first
        | (go_at_call 24; refine (in_calls o _ n _ ((unhide HO).tfr (((TFr.refl 0 [] w).alloc _).alloc _) (by decide)) (by omega)).mono ?_; rintro e w' ⟨rfl, rfl⟩; rw [hd])
        | (at_builtin; refine wpList_append_rows rfl (.tmp 18) (.tmp 20) 32 rfl w.heap.size 0 3 i0 (.int .i64 0) 1 8 Try.underlying32 hi0 hz0 hz1 hz2 rfl (by decide) _ 0 [] rfl (own_fresh 3 1 (by simp) (by omega)) _ o.length (ints o) rfl ((unhide HO).tfr ((((TFr.refl 0 [] w).alloc _).alloc _).alloc _) (by decide)) (ints_one o) (by simp only [maxLen]; omega) (by omega) (by simp; omega) ?_; intro v2 w2 hown2 hg2; rw [Nat.zero_add, List.nil_append] at hown2; have hB0 := blk_grown (own_fresh (base := w.heap.size) 3 1 (by simp) (by omega)) (Blk.alloc (Blk.alloc (Blk.at (w := w) 41 #[.slice A o.length c, .slice A1 n1 c1] rfl) _) _) hg2 (by decide); have hB1 := blk_grown (own_fresh (base := w.heap.size) 3 1 (by simp) (by omega)) (Blk.alloc (Blk.at (g := w.heap.size + 1) 41 _ (by simp)) _) hg2 (by decide); have F2 := hide (TFr.grown_new ((((TFr.refl 0 [] w).alloc _).alloc _).alloc _) (own_fresh (base := w.heap.size) 3 1 (by simp) (by omega)) hg2 (Nat.le_refl _)); have HB0 := hide hB0; have HB1 := hide hB1; have HOWN2 := hide hown2; clear hB0 hB1 hown2 hg2)
        | (at_builtin; refine wpList_append_own _ rfl (.tmp 21) (.tmp 23) 32 rfl w.heap.size 3 i0 (.int .i64 0) 1 8 Try.underlying32 hi0 hz0 hz1 hz2 rfl (by decide) _ _ _ rfl (World.ownsRow.alloc (unhide HOWN2) _) ⟨_, 0, none⟩ 1 1 [.int .i64 n] rfl rfl (fun j u h => new_cell j u h) (fun u hu => by simp at hu; subst hu; rfl) (by simp only [maxLen]; omega) (by omega) ?c5 ?_; (case c5 => exact alloc_size _ (unhide F2).size); intro v3 w3 hown3 hg3 _; obtain ⟨A3, c3, rfl⟩ := own_slice hown3; have hB0 := blk_grown (World.ownsRow.alloc (unhide HOWN2) _) (Blk.alloc (unhide HB0) _) hg3 (by decide); have hB1 := blk_grown (World.ownsRow.alloc (unhide HOWN2) _) (Blk.alloc (unhide HB1) _) hg3 (by decide); have F3 := hide (TFr.grown_new ((unhide F2).alloc _) (World.ownsRow.alloc (unhide HOWN2) _) hg3 (Nat.le_refl _)); have ca : w3.cell? ⟨w.heap.size, 0, none⟩ = some (.slice A o.length c) := hB0.cell 0; have cb : w3.cell? ⟨w.heap.size, 1, none⟩ = some (.slice A1 n1 c1) := hB0.cell 1; have cc : w3.cell? ⟨w.heap.size + 1, 0, none⟩ = some (.slice none 0 0) := hB1.cell 0; have cd : w3.cell? ⟨w.heap.size + 1, 1, none⟩ = some (.slice none 0 0) := hB1.cell 1; have fa := hB0.frozen 0; have fc := hB1.frozen 0; have fd := hB1.frozen 1; have HC0 := hide hB0; have HC1 := hide hB1; have HOWN3 := hide hown3; clear hB0 hB1 hown3 hg3))
      have hc1 := unhide HC1
      have hb1 := hc1.far (p := ⟨w.heap.size, 0, none⟩) (by simp) (.slice A3 (o.length + 1) c3)
      have hb2 := hb1.put 0 (.slice A3 (o.length + 1) c3) (cs' := #[.slice A3 (o.length + 1) c3, .slice none 0 0]) rfl
      have hb3 := hb2.put 1 (.slice A1 n1 c1) (cs' := #[.slice A3 (o.length + 1) c3, .slice A1 n1 c1]) rfl
      refine bodyPost_ret (results_ct rfl _ _ _ 41 _ _ rfl hb3 Try.underlying41 rfl (by kernel_rfl)) rfl ?_
      have ho := own_set (p := ⟨w.heap.size + 1, 1, none⟩) (own_set (p := ⟨w.heap.size + 1, 0, none⟩) (own_set (p := ⟨w.heap.size, 0, none⟩) (unhide HOWN3) (unhide HC0) (by decide) _) hb1 (by decide) _) hb2 (by decide) (.slice A1 n1 c1)
      exact ⟨_, rfl, IRow.of ho (by simp) (by simp [ints]), ((((unhide F3).setNew (p := ⟨w.heap.size, 0, none⟩) (Nat.le_refl _) _).setNew (p := ⟨w.heap.size + 1, 0, none⟩) (by simp) _).setNew (p := ⟨w.heap.size + 1, 1, none⟩) (by simp) _)⟩

theorem risopen_calls (o : List Int) (vo vi : Value) (n : Int) (w : World) (h : IRow w vo o) (hl : o.length ≤ 100000) : Calls Try.prog 21 #[.agg #[vo, vi], .int .i64 n] w fun e w' => e = .returned (.bool (decide (n ∈ o))) ∧ TFr 0 [] w w' := by
  obtain ⟨A, c, rfl⟩ := h.slice
  have HO := hide h; clear h
  go_enter Try.func21, Try.ntmps21
  go_wp2_with (go_at_call 24; refine (in_calls o _ n _ ((unhide HO).tfr (((TFr.refl 0 [] w).alloc _)) (by decide)) (by omega)).mono ?_; rintro e w' ⟨rfl, rfl⟩)
  go_ret
  exact ⟨rfl, (TFr.refl _ _ _).alloc _⟩

abbrev RItem := Int × List Int
abbrev Entry := Int × List Int × Value
def jc (x : Entry) : List Value := [.int .i64 x.1, x.2.2]
theorem jc_len (x : Entry) : (jc x).length = 2 := rfl
abbrev je (x : Entry) : RItem := (x.1, x.2.1)
/-- v is a list of items. -/
def JOwn (base : Nat) (w : World) (v : Value) (items : List RItem) : Prop := ∃ xs : List Entry, xs.map je = items ∧ w.ownsRow base 59 2 v xs.length (xs.flatMap jc) ∧ ∀ x ∈ xs, IRow w x.2.2 x.2.1
theorem JOwn.nil (base : Nat) (w : World) : JOwn base w (.slice none 0 0) [] := ⟨[], rfl, World.ownsRow_nil _ _ _ _, fun x hx => by cases hx⟩
theorem JOwn.mono {base : Nat} {w : World} {v : Value} {items : List RItem} (h : JOwn base w v items) : JOwn 0 w v items := by
  obtain ⟨xs, h1, h2, h3⟩ := h
  exact ⟨xs, h1, World.ownsRow.mono h2 (Nat.zero_le _), h3⟩
theorem JOwn.tfr {base B : Nat} {T : List TypeId} {w w' : World} {v : Value} {items : List RItem} (h : JOwn base w v items) (hf : TFr B T w w') (h3 : 3 ∉ T) (h59 : 59 ∉ T) : JOwn base w' v items := by
  obtain ⟨xs, h1, h2, hi⟩ := h
  exact ⟨xs, h1, own_tfr h2 hf h59, fun x hx => (hi x hx).tfr hf h3⟩
theorem JOwn.slice {base : Nat} {w : World} {v : Value} {items : List RItem} (h : JOwn base w v items) : ∃ A c, v = .slice A items.length c := by
  obtain ⟨xs, rfl, h2, hi⟩ := h
  rw [List.length_map]
  exact own_slice h2
theorem JOwn.at {base : Nat} {w : World} {A : Option Addr} {n c : Nat} {items : List RItem} (h : JOwn base w (.slice A n c) items) {k : Nat} (hk : k < items.length) :
    ∃ g A' c', A = some ⟨g, 0, none⟩ ∧ w.cell? ⟨g, k * 2, none⟩ = some (.int .i64 items[k].1) ∧ w.cell? ⟨g, k * 2 + 1, none⟩ = some (.slice A' items[k].2.length c') ∧ IRow w (.slice A' items[k].2.length c') items[k].2 := by
  obtain ⟨xs, rfl, h2, hi⟩ := h
  rw [List.length_map] at hk
  obtain ⟨g, cap, e, _, hc⟩ := own_shapeN h2 (by omega)
  simp only [Value.slice.injEq] at e
  have hix := hi xs[k] (List.getElem_mem hk)
  obtain ⟨A', c', e'⟩ := hix.slice
  have h0 : (jc xs[k])[0]? = some (.int .i64 xs[k].1) := rfl
  have h1 : (jc xs[k])[1]? = some xs[k].2.2 := rfl
  refine ⟨g, A', c', e.1, ?_, ?_, ?_⟩
  · have := hc (k * 2 + 0) (by omega)
    rw [flat_atN jc 2 jc_len xs k 0 hk (by omega), h0] at this
    simpa using this
  · rw [hc _ (by omega), flat_atN jc 2 jc_len xs k 1 hk (by omega), h1, e']
    simp
  · rw [e'] at hix
    simpa using hix
theorem jc_one {w : World} (xs : List Entry) (hi : ∀ x ∈ xs, IRow w x.2.2 x.2.1) : ∀ u ∈ xs.flatMap jc, u.oneCell' = true := by
  intro u hu
  obtain ⟨x, hx, hux⟩ := List.mem_flatMap.1 hu
  obtain ⟨A', c', e'⟩ := (hi x hx).slice
  simp only [jc, e', List.mem_cons, List.not_mem_nil, or_false] at hux
  rcases hux with rfl | rfl <;> rfl
theorem JOwn.snoc {base : Nat} {w : World} {v : Value} {xs : List Entry} {x : Int} {l : List Int} {u : Value} (h : w.ownsRow base 59 2 v (xs.length + 1) (xs.flatMap jc ++ [.int .i64 x, u])) (hi : ∀ x ∈ xs, IRow w x.2.2 x.2.1) (hu : IRow w u l) : JOwn base w v (xs.map je ++ [(x, l)]) := by
  refine ⟨xs ++ [(x, l, u)], by simp, by simpa [jc] using h, fun y hy => ?_⟩
  rcases List.mem_append.1 hy with hy | hy
  · exact hi y hy
  · simp at hy; subst hy; exact hu

end Go.Proofs.Ytddheambeefhpaa.Gr
