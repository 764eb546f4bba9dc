/- the document's answer beside the program's: the plain law -/
import Derived.Test.YtddheambeefhpaaGrRefE
namespace Go.Proofs.Ytddheambeefhpaa.Gr
open Go.RowKit Go.Proofs.Ytddheambeefhpaa.Own
set_option linter.unusedVariables false
set_option linter.unusedSimpArgs false

/-- An item and the document's: what waits, and for whom. -/
structure ISim (os : Nat → Int) (last : Int) (p : Item × RItem) : Prop where
  what : p.2.1 = p.1.1
  «for» : ∀ n : Int, n ∈ p.2.2 ↔ 0 ≤ n ∧ n < 8 ∧ p.1.2 n.toNat ≠ 0 ∧ os n.toNat = p.1.2 n.toNat
  old : ∀ i, i < 8 → 0 ≤ p.1.2 i ∧ p.1.2 i ≤ last
  short : p.2.2.length ≤ 1000
structure Sim (os : Nat → Int) (last : Int) (ps : List (Item × RItem)) (o : List Int) : Prop where
  nums : ∀ i, i < 8 → 0 ≤ os i ∧ os i ≤ last
  opn : ∀ n : Int, n ∈ o ↔ 0 ≤ n ∧ n < 8 ∧ os n.toNat ≠ 0
  each : ∀ p ∈ ps, ISim os last p
  pos : 0 ≤ last
abbrev its (ps : List (Item × RItem)) : List Item := ps.map (·.1)
abbrev rits (ps : List (Item × RItem)) : List RItem := ps.map (·.2)

theorem Sim.start : Sim (fun _ => 0) 0 [] [] := ⟨fun i _ => ⟨Int.le_refl _, Int.le_refl _⟩, fun n => ⟨fun h => (List.not_mem_nil h).elim, fun h => absurd rfl h.2.2⟩, fun p h => (List.not_mem_nil h).elim, Int.le_refl _⟩
theorem Sim.open_ {os : Nat → Int} {last : Int} {ps : List (Item × RItem)} {o : List Int} (h : Sim os last ps o) (who : Int) : openS os who = decide (who ∈ o) := by
  unfold openS
  by_cases h1 : who < 0 ∨ 8 ≤ who
  · rw [if_pos h1]
    exact (decide_eq_false fun hm => by have := (h.opn who).1 hm; omega).symm
  · rw [if_neg h1]
    by_cases hz : os who.toNat = 0
    · rw [hz]
      exact (decide_eq_false fun hm => ((h.opn who).1 hm).2.2 hz).symm
    · rw [decide_eq_true ((h.opn who).2 ⟨by omega, by omega, hz⟩)]
      exact bne_iff_ne.2 hz
theorem Sim.enter {os : Nat → Int} {last : Int} {ps : List (Item × RItem)} {o : List Int} (h : Sim os last ps o) (who : Int) :
    (enterS os last who).2.2 = (rEnter o who).2 ∧ Sim (enterS os last who).1 (enterS os last who).2.1 ps (rEnter o who).1 := by
  unfold enterS rEnter
  by_cases h1 : who < 0 ∨ 8 ≤ who
  · have h7 : who < 0 ∨ 7 < who := by omega
    rw [if_pos h1, if_pos h7]
    exact ⟨rfl, h⟩
  · have h7 : ¬ (who < 0 ∨ 7 < who) := by omega
    rw [if_neg h1, if_neg h7]
    by_cases hz : os who.toNat = 0
    · have hn : ¬ who ∈ o := fun hm => ((h.opn who).1 hm).2.2 hz
      have hz' : ¬ (os who.toNat ≠ 0) := fun f => f hz
      rw [if_neg hz', if_neg hn]
      refine ⟨rfl, fun i hi => ?_, fun n => ?_, fun p hp => ?_, by have := h.pos; show 0 ≤ last + 1; omega⟩
      · have := h.nums i hi
        have := h.pos
        show 0 ≤ (if i = who.toNat then last + 1 else os i) ∧ (if i = who.toNat then last + 1 else os i) ≤ last + 1
        split <;> omega
      · rw [List.mem_append, List.mem_singleton, h.opn]
        show _ ↔ 0 ≤ n ∧ n < 8 ∧ (if n.toNat = who.toNat then last + 1 else os n.toNat) ≠ 0
        have := h.pos
        by_cases e : n = who
        · subst e
          rw [if_pos rfl]
          constructor
          · intro _; exact ⟨by omega, by omega, by omega⟩
          · intro _; exact .inr rfl
        · constructor
          · rintro (h2 | h2)
            · refine ⟨h2.1, h2.2.1, ?_⟩
              rw [if_neg (by omega)]; exact h2.2.2
            · exact absurd h2 e
          · intro h2
            have h3 := h2.2.2
            rw [if_neg (by omega)] at h3
            exact .inl ⟨h2.1, h2.2.1, h3⟩
      · have hi := h.each p hp
        refine ⟨hi.what, fun n => ?_, fun i h8 => ?_, hi.short⟩
        · rw [hi.for]
          show _ ↔ 0 ≤ n ∧ n < 8 ∧ p.1.2 n.toNat ≠ 0 ∧ (if n.toNat = who.toNat then last + 1 else os n.toNat) = p.1.2 n.toNat
          by_cases e : n.toNat = who.toNat
          · rw [if_pos e, e, hz]
            constructor
            · intro h2; exact absurd h2.2.2.2.symm h2.2.2.1
            · intro h2
              have := hi.old who.toNat (by omega)
              omega
          · rw [if_neg e]
        · have := hi.old i h8
          show 0 ≤ p.1.2 i ∧ p.1.2 i ≤ last + 1
          omega
    · have hm := (h.opn who).2 ⟨by omega, by omega, hz⟩
      have hz' : os who.toNat ≠ 0 := hz
      rw [if_pos hz', if_pos hm]
      exact ⟨rfl, h⟩
def leaveP (who : Int) (o : List Int) (ps : List (Item × RItem)) : List (Item × RItem) := if who < 0 ∨ 7 < who then ps else if who ∈ o then ps.map fun p => (p.1, (p.2.1, p.2.2.filter (· != who))) else ps
theorem Sim.leave {os : Nat → Int} {last : Int} {ps : List (Item × RItem)} {o : List Int} (h : Sim os last ps o) (who : Int) :
    (leaveS os who).2 = (rLeave o (rits ps) who).2.2 ∧ Sim (leaveS os who).1 last (leaveP who o ps) (rLeave o (rits ps) who).1 ∧ its (leaveP who o ps) = its ps ∧ rits (leaveP who o ps) = (rLeave o (rits ps) who).2.1 := by
  unfold leaveS rLeave leaveP
  by_cases h1 : who < 0 ∨ 8 ≤ who
  · have h7 : who < 0 ∨ 7 < who := by omega
    rw [if_pos h1, if_pos h7, if_pos h7]
    exact ⟨rfl, h, rfl, rfl⟩
  · have h7 : ¬ (who < 0 ∨ 7 < who) := by omega
    rw [if_neg h1, if_neg h7, if_neg h7]
    by_cases hz : os who.toNat = 0
    · have hn : ¬ who ∈ o := fun hm => ((h.opn who).1 hm).2.2 hz
      rw [if_pos hz, if_neg hn, if_neg hn]
      exact ⟨rfl, h, rfl, rfl⟩
    · have hm := (h.opn who).2 ⟨by omega, by omega, hz⟩
      rw [if_neg hz, if_pos hm, if_pos hm]
      refine ⟨rfl, ⟨fun i hi => ?_, fun n => ?_, fun p hp => ?_, h.pos⟩, by simp, by simp [rWith]⟩
      · have := h.nums i hi
        have := h.pos
        show 0 ≤ (if i = who.toNat then 0 else os i) ∧ (if i = who.toNat then 0 else os i) ≤ last
        split <;> omega
      · rw [List.mem_filter, h.opn]
        show _ ↔ 0 ≤ n ∧ n < 8 ∧ (if n.toNat = who.toNat then 0 else os n.toNat) ≠ 0
        by_cases e : n = who
        · subst e; simp
        · constructor
          · intro h2
            refine ⟨h2.1.1, h2.1.2.1, ?_⟩
            rw [if_neg (by omega)]; exact h2.1.2.2
          · intro h2
            have h3 := h2.2.2
            rw [if_neg (by omega)] at h3
            exact ⟨⟨h2.1, h2.2.1, h3⟩, bne_iff_ne.2 e⟩
      · obtain ⟨q, hq, rfl⟩ := List.mem_map.1 hp
        have hi := h.each q hq
        refine ⟨hi.what, fun n => ?_, hi.old, Nat.le_trans (List.length_filter_le _ _) hi.short⟩
        show n ∈ q.2.2.filter (· != who) ↔ 0 ≤ n ∧ n < 8 ∧ q.1.2 n.toNat ≠ 0 ∧ (if n.toNat = who.toNat then 0 else os n.toNat) = q.1.2 n.toNat
        rw [List.mem_filter, hi.for]
        by_cases e : n = who
        · subst e
          rw [if_pos rfl]
          constructor
          · intro h2; simp at h2
          · intro h2; exact absurd h2.2.2.2.symm h2.2.2.1
        · constructor
          · intro h2
            refine ⟨h2.1.1, h2.1.2.1, h2.1.2.2.1, ?_⟩
            rw [if_neg (by omega)]; exact h2.1.2.2.2
          · intro h2
            have h3 := h2.2.2.2
            rw [if_neg (by omega)] at h3
            exact ⟨⟨h2.1, h2.2.1, h2.2.2.1, h3⟩, bne_iff_ne.2 e⟩
theorem Sim.defer {os : Nat → Int} {last : Int} {ps : List (Item × RItem)} {o : List Int} (h : Sim os last ps o) (what : Int) (ho : o.length ≤ 1000) : Sim os last (ps ++ [((what, os), (what, o))]) o := by
  refine ⟨h.nums, h.opn, fun p hp => ?_, h.pos⟩
  rcases List.mem_append.1 hp with hp | hp
  · exact h.each p hp
  · simp at hp; subst hp
    refine ⟨rfl, fun n => ?_, h.nums, ho⟩
    rw [h.opn]; simp
theorem ISim.over {os : Nat → Int} {last : Int} {p : Item × RItem} (h : ISim os last p) : overB os p.1.2 = p.2.2.isEmpty := by
  rw [Bool.eq_iff_iff, overB_upto, List.isEmpty_iff]
  constructor
  · intro h1
    rw [List.eq_nil_iff_forall_not_mem]
    intro n hn
    obtain ⟨h0, h8, h2, h3⟩ := (h.for n).1 hn
    rcases h1 n.toNat (by omega) with h4 | h4
    · exact h2 h4
    · exact h4 h3
  · intro h1 i hi
    rcases Classical.em (p.1.2 i = 0) with h2 | h2
    · exact .inl h2
    · refine .inr fun h3 => ?_
      have := (h.for i).2 ⟨by omega, by omega, by simpa using h2, by simpa using h3⟩
      rw [h1] at this
      exact List.not_mem_nil this
def tickP (os : Nat → Int) (ps : List (Item × RItem)) : List (Item × RItem) := ps.filter fun p => !overB os p.1.2
theorem Sim.tick {os : Nat → Int} {last : Int} {ps : List (Item × RItem)} {o : List Int} (h : Sim os last ps o) :
    Sim os last (tickP os ps) o ∧ kept os (its ps) = its (tickP os ps) ∧ (rTick (rits ps)).1 = rits (tickP os ps) ∧ told os (its ps) = (rTick (rits ps)).2 := by
  refine ⟨⟨h.nums, h.opn, fun p hp => h.each p (List.mem_filter.1 hp).1, h.pos⟩, ?_, ?_, ?_⟩
  · unfold kept tickP its
    rw [List.filter_map]; rfl
  · unfold rTick tickP rits
    rw [List.filter_map]
    show List.map _ (List.filter _ ps) = _
    rw [List.filter_congr fun p hp => ?_]
    have := (h.each p hp).over
    simp [this]
  · show List.map (·.1) (List.filter (fun x : Item => overB os x.2) (ps.map (·.1))) = List.map (·.1) (List.filter (fun x : RItem => x.2.isEmpty) (ps.map (·.2)))
    rw [List.filter_map, List.filter_map, List.map_map, List.map_map]
    rw [List.filter_congr (p := (fun x : Item => overB os x.2) ∘ fun x : Item × RItem => x.1) (q := (fun x : RItem => x.2.isEmpty) ∘ fun x : Item × RItem => x.2) fun p hp => (h.each p hp).over]
    exact List.map_congr_left fun p hp => ((h.each p (List.mem_filter.1 hp).1).what).symm
end Go.Proofs.Ytddheambeefhpaa.Gr
