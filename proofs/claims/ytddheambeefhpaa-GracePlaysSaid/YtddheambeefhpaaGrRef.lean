/- the document's answer for grace: each function by the walk of its own text -/
import Derived.Test.YtddheambeefhpaaOwn2
import Derived.Deep.Onto
namespace Go.Proofs.Ytddheambeefhpaa.Gr
open Go.RowKit Go.Proofs.Ytddheambeefhpaa.Own
set_option linter.unusedVariables false
set_option linter.unusedSimpArgs false

theorem infoR : (Try.prog.info? 59).map (fun i => (i.zero, i.size, i.bytes)) = some (some (.agg #[.int .i64 0, .slice none 0 0]), 2, 32) := by kernel_rfl
abbrev ints (l : List Int) : List Value := l.map (Value.int .i64)
/-- v is a list of the numbers l. -/
def IRow (w : World) (v : Value) (l : List Int) : Prop := w.ownsRow 0 3 1 v l.length (ints l)
theorem ints_one (l : List Int) : ∀ u ∈ ints l, u.oneCell' = true := by
  intro u hu
  obtain ⟨x, _, rfl⟩ := List.mem_map.1 hu
  rfl
theorem IRow.nil (w : World) : IRow w (.slice none 0 0) [] := World.ownsRow_nil _ _ _ _
theorem IRow.of {w : World} {base n : Nat} {v : Value} {l : List Int} {xs : List Value} (h : w.ownsRow base 3 1 v n xs) (hn : n = l.length) (hx : xs = ints l) : IRow w v l := by
  subst hn; subst hx
  exact World.ownsRow.mono h (Nat.zero_le _)
theorem IRow.below {w w' : World} {v : Value} {l : List Int} (h : IRow w v l) (hb : Below w.heap.size w w') : IRow w' v l := own_below h hb
theorem IRow.tfr {B : Nat} {T : List TypeId} {w w' : World} {v : Value} {l : List Int} (h : IRow w v l) (hf : TFr B T w w') (ht : 3 ∉ T) : IRow w' v l := own_tfr h hf ht
theorem IRow.slice {w : World} {v : Value} {l : List Int} (h : IRow w v l) : ∃ A c, v = .slice A l.length c := own_slice h
theorem IRow.at {w : World} {A : Option Addr} {c : Nat} {l : List Int} (h : IRow w (.slice A l.length c) l) (hn : 0 < l.length) : ∃ g, A = some ⟨g, 0, none⟩ ∧ g < w.heap.size ∧ ∀ j (hj : j < l.length), w.cell? ⟨g, j, none⟩ = some (.int .i64 l[j]) := by
  obtain ⟨g, d, e, hlt, hc⟩ := own_shape h hn
  simp only [Value.slice.injEq, true_and] at e
  refine ⟨g, e.1, hlt, fun j hj => ?_⟩
  rw [hc j hj, List.getElem?_map, List.getElem?_eq_getElem hj]; rfl

def InPost (w : World) (l : List Int) (n : Int) (e : Ending) (w' : World) : Prop := e = .returned (.bool (decide (n ∈ l))) ∧ w = w'
theorem in_calls (l : List Int) (v : Value) (n : Int) (w : World) (h : IRow w v l) (hl : l.length ≤ 1000000) : Calls Try.prog 24 #[v, .int .i64 n] w (InPost w l n) := by
  obtain ⟨A, c, rfl⟩ := h.slice
  have HO := hide h; clear h
  go_enter Try.func24, Try.ntmps24
  go_wp2
  go_loop [5] (fun x => ∃ k : Nat, k ≤ l.length ∧ x = .int .i64 k ∧ Hid (n ∉ l.take k)) (fun x => l.length - (intOf x).toNat)
  case atStart => exact ⟨0, by omega, rfl, by simp [Hid]⟩
  case round =>
    obtain ⟨k, hk, rfl, HK⟩ := hrel
    by_cases hlt : k < l.length
    · obtain ⟨g, rfl, _, hcell⟩ := IRow.at (unhide HO) (by omega)
      have hc := hcell k hlt
      have ht : l.take (k + 1) = l.take k ++ [l[k]] := List.take_succ_eq_append_getElem hlt
      have hm : l[k] ∈ l := List.getElem_mem hlt
      generalize l[k] = x at *
      have HT := hide ht; have HM := hide hm; clear ht hm hcell
      rcases Classical.em (x = n) with e | e
      · have he : (x == n) = true := beq_iff_eq.2 e
        have HE := hide e; clear e
        go_wp2
        go_ret
        exact ⟨bool_ret (by rw [← HE.out]; exact (decide_eq_true HM.out).symm), rfl⟩
      · have he : (x == n) = false := beq_eq_false_iff_ne.2 e
        have HE := hide e; clear e
        go_wp2
        go_round
        case rel =>
          refine ⟨k + 1, by omega, by go_num, fun hin => ?_⟩
          rw [HT.out] at hin
          rcases List.mem_append.1 hin with h | h
          · exact HK.out h
          · simp at h; exact HE.out h.symm
        case measure => simp [intOf]; omega
    · go_wp2
      go_ret
      refine ⟨bool_ret ?_, rfl⟩
      have := HK.out
      rw [List.take_of_length_le (by omega)] at this
      exact (decide_eq_false this).symm

theorem filter_snoc (l : List Int) (n : Int) (k : Nat) (hk : k < l.length) : (l.take (k + 1)).filter (· != n) = (l.take k).filter (· != n) ++ if l[k] = n then [] else [l[k]] := by
  rw [List.take_succ_eq_append_getElem hk, List.filter_append]
  by_cases h : l[k] = n <;> simp [h]
def WithoutPost (w : World) (l : List Int) (n : Int) (e : Ending) (w' : World) : Prop := ∃ v, e = .returned v ∧ IRow w' v (l.filter (· != n)) ∧ TFr 0 [] w w'
set_option maxRecDepth 100000 in
theorem without_calls (l : List Int) (v : Value) (n : Int) (w : World) (h : IRow w v l) (hl : l.length ≤ 1000000) : Calls Try.prog 25 #[v, .int .i64 n] w (WithoutPost w l n) := by
  obtain ⟨A, c, rfl⟩ := h.slice
  obtain ⟨i0, hi0, hz0, hz1, hz2⟩ := info_parts infoInt
  have HO := hide h; clear h
  go_enter Try.func25, Try.ntmps25
  go_wp2
  go_loopw [5, 6] (fun o x wr => ∃ k : Nat, k ≤ l.length ∧ x = .int .i64 k ∧ Hid (wr.ownsRow w.heap.size 3 1 o ((l.take k).filter (· != n)).length (ints ((l.take k).filter (· != n)))) ∧ Hid (TFr 0 [] w wr)) (fun _ x _ => l.length - (intOf x).toNat)
  case atStart => exact ⟨0, by omega, rfl, World.ownsRow_nil _ _ _ _, TFr.refl _ _ _⟩
  case round =>
    obtain ⟨k, hk, rfl, HK, HF⟩ := hrel
    by_cases hlt : k < l.length
    · obtain ⟨g, rfl, _, hcell⟩ := IRow.at ((unhide HO).tfr (unhide HF) (by decide)) (by omega)
      have hc := hcell k hlt
      have ht := filter_snoc l n k hlt
      have hfl : ((l.take k).filter (· != n)).length ≤ k := Nat.le_trans (List.length_filter_le _ _) (List.length_take_le _ _)
      generalize l[k] = x at *
      generalize (l.take k).filter (· != n) = F at *
      have HT := hide ht; clear ht hcell
      rcases Classical.em (x = n) with e | e
      · have he : (x != n) = false := by simp [e]
        have HE := hide e; clear e
        go_wp2
        go_round
        case rel =>
          refine ⟨k + 1, by omega, by go_num, ?_, HF⟩
          rw [HT.out, if_pos HE.out, List.append_nil]; exact HK
        case measure => simp [intOf]; omega
      · have he : (x != n) = true := bne_iff_ne.2 e
        have HE := hide e; clear e
        go_wp2_with (at_builtin; refine wpList_append_own _ rfl (.tmp 19) (.tmp 24) 32 rfl w.heap.size 3 i0 (.int .i64 0) 1 8 Try.underlying32 hi0 hz0 hz1 hz2 rfl (by decide) _ F.length (ints F) rfl (World.ownsRow.alloc (unhide HK) _) ⟨_, 0, none⟩ 1 1 [.int .i64 x] rfl rfl (fun j u h => new_cell j u h) (fun u hu => by simp at hu; subst hu; rfl) (by simp only [maxLen]; omega) (by omega) ?c5 ?_; (case c5 => exact alloc_size _ (unhide HF).size); intro v2 w2 hown2 hg2 _; have HOWN2 := hide hown2; have HG2 := hide hg2; clear hown2 hg2)
        go_roundw
        case rel =>
          refine ⟨k + 1, by omega, by go_num, ?_, TFr.grown_new ((unhide HF).alloc _) (World.ownsRow.alloc (unhide HK) _) (unhide HG2) (Nat.le_refl _)⟩
          rw [HT.out, if_neg HE.out, List.length_append, ints, List.map_append]; exact HOWN2
        case measure => simp [intOf]; omega
    · go_wp2
      go_ret
      have := unhide HK
      rw [List.take_of_length_le (by omega)] at this
      exact ⟨_, rfl, IRow.of this rfl rfl, unhide HF⟩

theorem same_calls (l m : List Int) (v u : Value) (w : World) (h : IRow w v l) (h' : IRow w u m) (he : l = m) (hl : l.length ≤ 1000000) : Calls Try.prog 20 #[v, u] w fun e w' => e = .returned (.bool true) ∧ TFr 0 [] w w' := by
  subst he
  obtain ⟨A, c, rfl⟩ := h.slice
  obtain ⟨A', c', rfl⟩ := h'.slice
  have HO := hide h; have HO' := hide h'; clear h h'
  go_enter Try.func20, Try.ntmps20
  go_wp2
  go_loopw [5] (fun x wr => ∃ k : Nat, k ≤ l.length ∧ x = .int .i64 k ∧ Hid (TFr 0 [] w wr)) (fun x _ => l.length - (intOf x).toNat)
  case atStart => exact ⟨0, by omega, rfl, TFr.refl _ _ _⟩
  case round =>
    obtain ⟨k, hk, rfl, HF⟩ := hrel
    by_cases hlt : k < l.length
    · obtain ⟨g, rfl, _, hcell⟩ := IRow.at ((unhide HO).tfr (unhide HF) (by decide)) (by omega)
      obtain ⟨g', rfl, _, hcell'⟩ := IRow.at ((unhide HO').tfr (unhide HF) (by decide)) (by omega)
      have hc := hcell k hlt
      have hc' := hcell' k hlt
      generalize l[k] = x at *
      clear hcell hcell'
      go_wp2
      go_quiet (fail)
      all_goals go_wp2
      go_roundw
      case rel => exact ⟨k + 1, by omega, by go_num, (unhide HF).drewN _⟩
      case measure => simp [intOf]; omega
    · go_wp2
      go_ret
      exact ⟨rfl, unhide HF⟩
end Go.Proofs.Ytddheambeefhpaa.Gr
