/- package grace: each function by the walk of its own text -/
import Derived.Test.YtddheambeefhpaaOwn
namespace Go.Proofs.Ytddheambeefhpaa.Gr
open Go.RowKit Go.Proofs.Ytddheambeefhpaa.Own
set_option linter.unusedVariables false
set_option linter.unusedSimpArgs false

theorem infoI : (Try.prog.info? 54).map (fun i => (i.zero, i.size, i.bytes)) = some (some (.agg #[.int .i64 0, .int .i64 0, .int .i64 0, .int .i64 0, .int .i64 0, .int .i64 0, .int .i64 0, .int .i64 0, .int .i64 0]), 9, 72) := by kernel_rfl
theorem infoInt : (Try.prog.info? 3).map (fun i => (i.zero, i.size, i.bytes)) = some (some (.int .i64 0), 1, 8) := by kernel_rfl

theorem one_nil (who : Int) (w : World) : Calls Try.prog 22 #[.pointer none, .int .i64 who] w fun e w' => e = .returned (.bool false) ∧ w = w' := by
  go_enter Try.func22, Try.ntmps22
  go_wp2
  go_ret
  exact ⟨rfl, rfl⟩
theorem one_yes (b : Nat) (who : Int) (w : World) (h0 : 0 ≤ who) (h8 : who < 8) : Calls Try.prog 22 #[.pointer (some ⟨b, 0, none⟩), .int .i64 who] w fun e w' => e = .returned (.bool true) ∧ w = w' := by
  go_enter Try.func22, Try.ntmps22
  go_wp2
  go_ret
  exact ⟨bool_ret (by simp), rfl⟩
theorem one_no (b : Nat) (who : Int) (w : World) (h : who < 0 ∨ 8 ≤ who) : Calls Try.prog 22 #[.pointer (some ⟨b, 0, none⟩), .int .i64 who] w fun e w' => e = .returned (.bool false) ∧ w = w' := by
  go_enter Try.func22, Try.ntmps22
  go_wp2
  all_goals go_ret
  all_goals exact ⟨bool_ret (by first | rfl | (simp; omega)), rfl⟩

abbrev Item := Int × (Nat → Int)
def itemCells (x : Item) : List Value := [.int .i64 x.1, .int .i64 (x.2 0), .int .i64 (x.2 1), .int .i64 (x.2 2), .int .i64 (x.2 3), .int .i64 (x.2 4), .int .i64 (x.2 5), .int .i64 (x.2 6), .int .i64 (x.2 7)]
theorem itemCells_one (x : Item) : ∀ u ∈ itemCells x, u.oneCell' = true := by
  intro u hu
  simp only [itemCells, List.mem_cons, List.not_mem_nil, or_false] at hu
  rcases hu with rfl | rfl | rfl | rfl | rfl | rfl | rfl | rfl | rfl <;> rfl
/-- The cells of a Grace: who has a section open, by its number (0: none), the last number, what waits. -/
structure Gc (os : Nat → Int) (last : Int) (v : Value) (cs : Array Value) : Prop where
  size : cs.size = 10
  opens : ∀ i, i < 8 → cs[i]? = some (.int .i64 (os i))
  last : cs[8]? = some (.int .i64 last)
  items : cs[9]? = some v
theorem Gc.setOpen {os : Nat → Int} {last : Int} {v : Value} {cs : Array Value} (h : Gc os last v cs) (who : Nat) (hw : who < 8) (n : Int) : Gc (fun i => if i = who then n else os i) last v (cs.setIfInBounds who (.int .i64 n)) := by
  refine ⟨by simp [h.size], fun i hi => ?_, ?_, ?_⟩
  · rw [Array.getElem?_setIfInBounds]
    by_cases e : who = i
    · subst e; simp [h.size]; omega
    · rw [if_neg e, if_neg (Ne.symm e)]; exact h.opens i hi
  · rw [Array.getElem?_setIfInBounds, if_neg (by omega)]; exact h.last
  · rw [Array.getElem?_setIfInBounds, if_neg (by omega)]; exact h.items
theorem Gc.setLast {os : Nat → Int} {last : Int} {v : Value} {cs : Array Value} (h : Gc os last v cs) (n : Int) : Gc os n v (cs.setIfInBounds 8 (.int .i64 n)) := by
  refine ⟨by simp [h.size], fun i hi => ?_, ?_, ?_⟩
  · rw [Array.getElem?_setIfInBounds, if_neg (by omega)]; exact h.opens i hi
  · rw [Array.getElem?_setIfInBounds, if_pos rfl, if_pos (by rw [h.size]; omega)]
  · rw [Array.getElem?_setIfInBounds, if_neg (by omega)]; exact h.items
theorem Gc.setItems {os : Nat → Int} {last : Int} {v : Value} {cs : Array Value} (h : Gc os last v cs) (u : Value) : Gc os last u (cs.setIfInBounds 9 u) := by
  refine ⟨by simp [h.size], fun i hi => ?_, ?_, ?_⟩
  · rw [Array.getElem?_setIfInBounds, if_neg (by omega)]; exact h.opens i hi
  · rw [Array.getElem?_setIfInBounds, if_neg (by omega)]; exact h.last
  · rw [Array.getElem?_setIfInBounds, if_pos rfl, if_pos (by rw [h.size]; omega)]

/-- Block b of the world is a Grace: its sections, the last number, what waits. -/
structure Rep (B : Nat) (w : World) (b : Nat) (os : Nat → Int) (last : Int) (items : List Item) (cs : Array Value) (v : Value) : Prop where
  blk : Blk w b 52 cs
  gc : Gc os last v cs
  own : w.ownsRow B 54 9 v items.length (items.flatMap itemCells)
  le : B ≤ b
def GRep (B : Nat) (w : World) (b : Nat) (os : Nat → Int) (last : Int) (items : List Item) : Prop := ∃ cs v, Rep B w b os last items cs v
/-- What grace may change. -/
abbrev gT : List TypeId := [52, 54]
theorem GRep.tfr {B : Nat} {T : List TypeId} {w w' : World} {b : Nat} {os : Nat → Int} {last : Int} {items : List Item} (h : GRep B w b os last items) (hf : TFr B T w w') (h1 : 52 ∉ T) (h2 : 54 ∉ T) : GRep B w' b os last items := by
  obtain ⟨cs, v, hb, hg, ho, hl⟩ := h
  exact ⟨cs, v, hb.tfr hf h1, hg, own_tfr ho hf h2, hl⟩

theorem new_calls (B : Nat) (w : World) (hB : B ≤ w.heap.size) : Calls Try.prog 9 #[] w fun e w' => e = .returned (.pointer (some ⟨w.heap.size, 0, none⟩)) ∧ GRep B w' w.heap.size (fun _ => 0) 0 [] ∧ TFr B [] w w' := by
  go_enter Try.func9, Try.ntmps9
  go_wp2
  go_ret
  exact ⟨rfl, ⟨_, .slice none 0 0, Blk.new _ _ _, ⟨rfl, fun i hi => by match i, hi with | 0, _ => rfl | 1, _ => rfl | 2, _ => rfl | 3, _ => rfl | 4, _ => rfl | 5, _ => rfl | 6, _ => rfl | 7, _ => rfl, rfl, rfl⟩, World.ownsRow_nil _ _ _ _, hB⟩, (TFr.refl _ _ _).alloc _⟩

theorem enter_nil (who : Int) (w : World) : Calls Try.prog 10 #[.pointer none, .int .i64 who] w fun e w' => e = .returned (.int .i64 1) ∧ w = w' := by
  go_enter Try.func10, Try.ntmps10
  go_wp2_with (go_at_call 22; refine (one_nil _ _).mono ?_; rintro e w' ⟨rfl, rfl⟩)
  go_ret
  exact ⟨rfl, rfl⟩
theorem enter_arg (b : Nat) (who : Int) (w : World) (h : who < 0 ∨ 8 ≤ who) : Calls Try.prog 10 #[.pointer (some ⟨b, 0, none⟩), .int .i64 who] w fun e w' => e = .returned (.int .i64 1) ∧ w = w' := by
  go_enter Try.func10, Try.ntmps10
  go_wp2_with (go_at_call 22; refine (one_no _ _ _ h).mono ?_; rintro e w' ⟨rfl, rfl⟩)
  go_ret
  exact ⟨rfl, rfl⟩
theorem enter_lock {B b : Nat} {os : Nat → Int} {last : Int} {items : List Item} (who : Int) (w : World) (hr : GRep B w b os last items) (h0 : 0 ≤ who) (h8 : who < 8) (hz : os who.toNat ≠ 0) :
    Calls Try.prog 10 #[.pointer (some ⟨b, 0, none⟩), .int .i64 who] w fun e w' => e = .returned (.int .i64 9) ∧ w = w' := by
  obtain ⟨cs, v, hb, hg, ho, hl⟩ := hr
  have hc := hb.cell who.toNat
  rw [hg.opens _ (by omega)] at hc
  have hz1 : (os who.toNat != 0) = true := bne_iff_ne.2 hz
  clear hb hg ho hz
  go_enter Try.func10, Try.ntmps10
  go_wp2_with (go_at_call 22; refine (one_yes _ _ _ h0 h8).mono ?_; rintro e w' ⟨rfl, rfl⟩)
  go_ret
  exact ⟨rfl, rfl⟩
theorem enter_ok {B b : Nat} {os : Nat → Int} {last : Int} {items : List Item} (who : Int) (w : World) (hr : GRep B w b os last items) (h0 : 0 ≤ who) (h8 : who < 8) (hz : os who.toNat = 0) (hl : 0 ≤ last) (hm : last < 1000000) :
    Calls Try.prog 10 #[.pointer (some ⟨b, 0, none⟩), .int .i64 who] w fun e w' => e = .returned (.int .i64 0) ∧ GRep B w' b (fun i => if i = who.toNat then last + 1 else os i) (last + 1) items ∧ TFr B gT w w' := by
  obtain ⟨cs, v, hb, hg, ho, hle⟩ := hr
  have hc := hb.cell who.toNat
  rw [hg.opens _ (by omega), hz] at hc
  have hc8 := hb.cell 8
  rw [hg.last] at hc8
  have hf1 := hb.frozen 8
  have hf2 := hb.frozen who.toNat
  have HB := hide hb; have HG := hide hg; have HO := hide ho
  clear hb hg hz ho
  go_enter Try.func10, Try.ntmps10
  go_wp2_with (go_at_call 22; refine (one_yes _ _ _ h0 h8).mono ?_; rintro e w' ⟨rfl, rfl⟩)
  go_region
  all_goals go_wp2
  all_goals go_ret
  all_goals
    have hb : Blk w b 52 cs := HB
    have hg : Gc os last v cs := HG
    have ho : w.ownsRow B 54 9 v items.length (items.flatMap itemCells) := HO
    have h1 := hb.set_ 8 (.int .i64 (last + 1))
    exact ⟨rfl, ⟨_, v, h1.set_ who.toNat (.int .i64 (last + 1)), (hg.setLast _).setOpen _ (by omega) _, own_set (p := ⟨b, who.toNat, none⟩) (own_set (p := ⟨b, 8, none⟩) ho hb (by decide) _) h1 (by decide) _, hle⟩,
      ((((TFr.refl _ _ _).setCell (p := ⟨b, 8, none⟩) hb (by decide) hle _).setCell (p := ⟨b, who.toNat, none⟩) h1 (by decide) hle _).drew)⟩

theorem leave_nil (who : Int) (w : World) : Calls Try.prog 11 #[.pointer none, .int .i64 who] w fun e w' => e = .returned (.int .i64 1) ∧ w = w' := by
  go_enter Try.func11, Try.ntmps11
  go_wp2_with (go_at_call 22; refine (one_nil _ _).mono ?_; rintro e w' ⟨rfl, rfl⟩)
  go_ret
  exact ⟨rfl, rfl⟩
theorem leave_arg (b : Nat) (who : Int) (w : World) (h : who < 0 ∨ 8 ≤ who) : Calls Try.prog 11 #[.pointer (some ⟨b, 0, none⟩), .int .i64 who] w fun e w' => e = .returned (.int .i64 1) ∧ w = w' := by
  go_enter Try.func11, Try.ntmps11
  go_wp2_with (go_at_call 22; refine (one_no _ _ _ h).mono ?_; rintro e w' ⟨rfl, rfl⟩)
  go_ret
  exact ⟨rfl, rfl⟩
theorem leave_lock {B b : Nat} {os : Nat → Int} {last : Int} {items : List Item} (who : Int) (w : World) (hr : GRep B w b os last items) (h0 : 0 ≤ who) (h8 : who < 8) (hz : os who.toNat = 0) :
    Calls Try.prog 11 #[.pointer (some ⟨b, 0, none⟩), .int .i64 who] w fun e w' => e = .returned (.int .i64 9) ∧ w = w' := by
  obtain ⟨cs, v, hb, hg, ho, hl⟩ := hr
  have hc := hb.cell who.toNat
  rw [hg.opens _ (by omega), hz] at hc
  clear hb hg ho hz
  go_enter Try.func11, Try.ntmps11
  go_wp2_with (go_at_call 22; refine (one_yes _ _ _ h0 h8).mono ?_; rintro e w' ⟨rfl, rfl⟩)
  go_ret
  exact ⟨rfl, rfl⟩
theorem leave_ok {B b : Nat} {os : Nat → Int} {last : Int} {items : List Item} (who : Int) (w : World) (hr : GRep B w b os last items) (h0 : 0 ≤ who) (h8 : who < 8) (hz : os who.toNat ≠ 0) :
    Calls Try.prog 11 #[.pointer (some ⟨b, 0, none⟩), .int .i64 who] w fun e w' => e = .returned (.int .i64 0) ∧ GRep B w' b (fun i => if i = who.toNat then 0 else os i) last items ∧ TFr B gT w w' := by
  obtain ⟨cs, v, hb, hg, ho, hle⟩ := hr
  have hc := hb.cell who.toNat
  rw [hg.opens _ (by omega)] at hc
  have hz1 : (os who.toNat == 0) = false := beq_eq_false_iff_ne.2 hz
  have hf2 := hb.frozen who.toNat
  have HB := hide hb; have HG := hide hg; have HO := hide ho
  clear hb hg hz ho
  go_enter Try.func11, Try.ntmps11
  go_wp2_with (go_at_call 22; refine (one_yes _ _ _ h0 h8).mono ?_; rintro e w' ⟨rfl, rfl⟩)
  go_ret
  have hb : Blk w b 52 cs := HB
  have hg : Gc os last v cs := HG
  have ho : w.ownsRow B 54 9 v items.length (items.flatMap itemCells) := HO
  exact ⟨rfl, ⟨_, v, hb.set_ who.toNat (.int .i64 0), hg.setOpen _ (by omega) _, own_set (p := ⟨b, who.toNat, none⟩) ho hb (by decide) _, hle⟩, (TFr.refl _ _ _).setCell (p := ⟨b, who.toNat, none⟩) hb (by decide) hle _⟩

theorem open_nil (who : Int) (w : World) : Calls Try.prog 12 #[.pointer none, .int .i64 who] w fun e w' => e = .returned (.bool false) ∧ w = w' := by
  go_enter Try.func12, Try.ntmps12
  go_wp2_with (go_at_call 22; refine (one_nil _ _).mono ?_; rintro e w' ⟨rfl, rfl⟩)
  go_ret
  exact ⟨rfl, rfl⟩
theorem open_arg (b : Nat) (who : Int) (w : World) (h : who < 0 ∨ 8 ≤ who) : Calls Try.prog 12 #[.pointer (some ⟨b, 0, none⟩), .int .i64 who] w fun e w' => e = .returned (.bool false) ∧ w = w' := by
  go_enter Try.func12, Try.ntmps12
  go_wp2_with (go_at_call 22; refine (one_no _ _ _ h).mono ?_; rintro e w' ⟨rfl, rfl⟩)
  go_ret
  exact ⟨rfl, rfl⟩
theorem open_at {B b : Nat} {os : Nat → Int} {last : Int} {items : List Item} (who : Int) (w : World) (hr : GRep B w b os last items) (h0 : 0 ≤ who) (h8 : who < 8) :
    Calls Try.prog 12 #[.pointer (some ⟨b, 0, none⟩), .int .i64 who] w fun e w' => e = .returned (.bool (os who.toNat != 0)) ∧ w = w' := by
  obtain ⟨cs, v, hb, hg, ho, hle⟩ := hr
  have hc := hb.cell who.toNat
  rw [hg.opens _ (by omega)] at hc
  clear hb hg ho
  go_enter Try.func12, Try.ntmps12
  go_wp2_with (go_at_call 22; refine (one_yes _ _ _ h0 h8).mono ?_; rintro e w' ⟨rfl, rfl⟩)
  go_ret
  exact ⟨rfl, rfl⟩

theorem waiting_nil (w : World) : Calls Try.prog 15 #[.pointer none] w fun e w' => e = .returned (.int .i64 0) ∧ w = w' := by
  go_enter Try.func15, Try.ntmps15
  go_wp2
  go_ret
  exact ⟨rfl, rfl⟩
theorem own_len {w : World} {B : Nat} {e : TypeId} {size n : Nat} {v : Value} {xs : List Value} (h : w.ownsRow B e size v n xs) : ∃ A c, v = .slice A n c := by
  rcases h.2 with ⟨rfl, rfl⟩ | ⟨g, cap, cur, rfl, _⟩
  · exact ⟨_, _, rfl⟩
  · exact ⟨_, _, rfl⟩
theorem waiting_at {B b : Nat} {os : Nat → Int} {last : Int} {items : List Item} (w : World) (hr : GRep B w b os last items) :
    Calls Try.prog 15 #[.pointer (some ⟨b, 0, none⟩)] w fun e w' => e = .returned (.int .i64 items.length) ∧ w = w' := by
  obtain ⟨cs, v, hb, hg, ho, hle⟩ := hr
  have hc := hb.cell 9
  rw [hg.items] at hc
  obtain ⟨A, c, rfl⟩ := own_len ho
  clear hb hg ho
  go_enter Try.func15, Try.ntmps15
  go_wp2
  go_ret
  exact ⟨rfl, rfl⟩

set_option maxRecDepth 100000 in
theorem defer_nil (what : Int) (w : World) : Calls Try.prog 14 #[.pointer none, .int .i64 what] w fun e w' => e = .returned (.int .i64 11) ∧ w = w' := by
  go_enter Try.func14, Try.ntmps14
  go_wp2
  go_ret
  exact ⟨rfl, rfl⟩
set_option maxRecDepth 100000 in
theorem defer_full {B b : Nat} {os : Nat → Int} {last : Int} {items : List Item} (what : Int) (w : World) (hr : GRep B w b os last items) (hn : 10000 ≤ items.length) :
    Calls Try.prog 14 #[.pointer (some ⟨b, 0, none⟩), .int .i64 what] w fun e w' => e = .returned (.int .i64 11) ∧ w = w' := by
  obtain ⟨cs, v, hb, hg, ho, hle⟩ := hr
  have hc := hb.cell 9
  rw [hg.items] at hc
  obtain ⟨A, c, rfl⟩ := own_len ho
  clear hb hg ho
  go_enter Try.func14, Try.ntmps14
  go_wp2
  go_ret
  exact ⟨rfl, rfl⟩
set_option maxRecDepth 100000 in
theorem defer_ok {B b : Nat} {os : Nat → Int} {last : Int} {items : List Item} (what : Int) (w : World) (hr : GRep B w b os last items) (hn : items.length < 10000) (hB : B ≤ w.heap.size) :
    Calls Try.prog 14 #[.pointer (some ⟨b, 0, none⟩), .int .i64 what] w fun e w' => e = .returned (.int .i64 0) ∧ GRep B w' b os last (items ++ [(what, os)]) ∧ TFr B gT w w' := by
  obtain ⟨cs, v, hb, hg, ho, hle⟩ := hr
  obtain ⟨i0, hi, hz, hz1, hz2⟩ := info_parts infoI
  have hc9 := hb.cell 9
  rw [hg.items] at hc9
  have hc : ∀ i, i < 8 → w.cell? ⟨b, i, none⟩ = some (.int .i64 (os i)) := fun i h => (hb.cell i).trans (hg.opens i h)
  obtain ⟨A, c, rfl⟩ := own_len ho
  have hca : ∀ (o : Obj) (i : Nat), (w.alloc o).cell? ⟨b, i, none⟩ = w.cell? ⟨b, i, none⟩ := fun o i => World.cell?_alloc_lt w o ⟨b, i, none⟩ hb.lt
  have HB := hide hb; have HG := hide hg; have HO := hide ho
  clear hb hg ho
  go_enter Try.func14, Try.ntmps14
  go_wp2
  go_region_law (refine step_append_own rfl (.tmp 19) (.tmp 26) 50 rfl B 54 i0 _ 9 72 Try.underlying50 hi hz hz1 hz2 rfl (by decide) (.slice A items.length c) items.length (items.flatMap itemCells) (by simp [Act.eval, Act.put]) (World.ownsRow.drew (World.ownsRow.alloc (unhide HO) _)) ⟨w.heap.size, 0, none⟩ 1 1 (itemCells (what, os)) (by simp [Act.eval, Act.put]) rfl (fun j u h => new_cell j u h) (itemCells_one _) (by simp only [maxLen]; omega) (by omega) (alloc_size _ hB) ?_; intro v2 w2 hown2 hg2; obtain ⟨A2, c2, rfl⟩ := own_len hown2; have hb2 := blk_grown (World.ownsRow.drew (World.ownsRow.alloc (unhide HO) _)) (Blk.drew (Blk.alloc (unhide HB) _)) hg2 (by decide); have hc2 := (hb2.cell 9).trans (Gc.items (unhide HG)); have hf2 := hb2.frozen 9; have HB2 := hide hb2; have HO2 := hide hown2; have HG2 := hide hg2; clear hb2 hown2 hg2)
  all_goals go_wp2
  all_goals go_ret
  all_goals
    have hb2 := unhide HB2
    refine ⟨rfl, ⟨_, .slice A2 (items.length + 1) c2, hb2.set_ 9 _, (unhide HG).setItems _, ?_, hle⟩, ?_⟩
    · have h := own_set (p := ⟨b, 9, none⟩) (unhide HO2) hb2 (by decide) (.slice A2 (items.length + 1) c2)
      rw [List.length_append, List.flatMap_append]
      simpa using h
    · exact TFr.setCell (p := ⟨b, 9, none⟩) (TFr.grown (((TFr.refl B gT w).alloc _).drew) (World.ownsRow.drew (World.ownsRow.alloc (unhide HO) _)) (unhide HG2) (by decide)) hb2 (by decide) hle _

/-- Is it over, that is: are all sections of sf, that were open then, over? -/
def overB (os sf : Nat → Int) : Bool := (List.range 8).all fun i => sf i == 0 || os i != sf i
theorem overB_upto (os sf : Nat → Int) : overB os sf = true ↔ ∀ i, i < 8 → sf i = 0 ∨ os i ≠ sf i := by
  unfold overB
  rw [List.all_eq_true]
  constructor
  · intro h i hi
    have := h i (List.mem_range.2 hi)
    simpa using this
  · intro h i hi
    have := h i (List.mem_range.1 hi)
    simpa using this
def secs (sf : Nat → Int) : Array Value := #[.int .i64 (sf 0), .int .i64 (sf 1), .int .i64 (sf 2), .int .i64 (sf 3), .int .i64 (sf 4), .int .i64 (sf 5), .int .i64 (sf 6), .int .i64 (sf 7)]
theorem secs_at (sf : Nat → Int) (i : Nat) (hi : i < 8) : (secs sf)[i]? = some (.int .i64 (sf i)) := by
  match i, hi with | 0, _ => rfl | 1, _ => rfl | 2, _ => rfl | 3, _ => rfl | 4, _ => rfl | 5, _ => rfl | 6, _ => rfl | 7, _ => rfl
def OverPost (w : World) (os sf : Nat → Int) (e : Ending) (w' : World) : Prop := e = .returned (.bool (overB os sf)) ∧ Below w.heap.size w w'
theorem over_calls {b : Nat} {os : Nat → Int} {last : Int} {v : Value} {cs : Array Value} (sf : Nat → Int) (w : World) (hb : Blk w b 52 cs) (hg : Gc os last v cs) :
    Calls Try.prog 23 #[.pointer (some ⟨b, 0, none⟩), .agg (secs sf)] w (OverPost w os sf) := by
  have hc : ∀ i, i < 8 → w.cell? ⟨b, i, none⟩ = some (.int .i64 (os i)) := fun i h => (hb.cell i).trans (hg.opens i h)
  have hca : ∀ (o : Obj) (i : Nat), (w.alloc o).cell? ⟨b, i, none⟩ = w.cell? ⟨b, i, none⟩ := fun o i => World.cell?_alloc_lt w o ⟨b, i, none⟩ hb.lt
  have hix : ∀ (k : Nat) (W : World), k < 8 → (Instr.index 49 (.agg (secs sf)) (.int .i64 (k : Int))).run Try.prog W = .ok (.int .i64 (sf k)) W := fun k W hk =>
    run_index_agg W Try.underlying49 Try.underlying3 rfl (by kernel_rfl) (by omega) (by omega) (by rw [Int.toNat_natCast]; exact secs_at sf k hk)
  have HIX := hide hix
  unfold secs
  clear hb hg hix
  go_enter Try.func23, Try.ntmps23
  go_wp2
  go_loop [8] (fun x => ∃ k : Nat, k ≤ 8 ∧ x = .int .i64 k ∧ Hid (∀ i, i < k → sf i = 0 ∨ os i ≠ sf i)) (fun x => 8 - (intOf x).toNat)
  case atStart => exact ⟨0, by omega, rfl, fun i hi => by omega⟩
  case round =>
    obtain ⟨k, hk, rfl, HK⟩ := hrel
    by_cases hlt : k < 8
    · have hix := fun W => HIX.out k W hlt
      unfold secs at hix
      have hck := hc k hlt
      clear hix hck
      have HC := hide hc; clear hc
      have hix := fun W => HIX.out k W hlt
      unfold secs at hix
      have hck := HC.out k hlt
      go_wp2
      all_goals
        clear hix hck hca
        first
        | (have hor : sf k = 0 ∨ os k ≠ sf k := by
             rcases Classical.em (sf k = 0 ∨ os k ≠ sf k) with h | h
             · exact h
             · exfalso
               have h1 : ¬ sf k = 0 := fun e => h (.inl e)
               have h2 : os k = sf k := Classical.byContradiction fun e => h (.inr e)
               simp_all
           go_round
           case rel =>
             refine ⟨k + 1, by omega, by go_num, fun i hi => ?_⟩
             by_cases e : i = k
             · subst e; exact hor
             · exact HK.out i (by omega)
           case measure => simp [intOf]; omega)
        | (go_ret
           have hno : ¬ (sf k = 0 ∨ os k ≠ sf k) := by
             intro h
             rcases h with h | h <;> simp_all
           have hf : overB os sf = false := Bool.eq_false_iff.2 fun h => hno ((overB_upto os sf).1 h k hlt)
           exact ⟨bool_ret hf.symm, (Below.refl _ _).alloc (Nat.le_refl _) _⟩)
    · go_wp2
      go_ret
      exact ⟨bool_ret ((overB_upto os sf).2 (fun i hi => HK.out i (by omega))).symm, (Below.refl _ _).alloc (Nat.le_refl _) _⟩

def told (os : Nat → Int) (items : List Item) : List Int := (items.filter fun x => overB os x.2).map (·.1)
def kept (os : Nat → Int) (items : List Item) : List Item := items.filter fun x => !overB os x.2
theorem told_snoc (os : Nat → Int) (items : List Item) (k : Nat) (hk : k < items.length) : told os (items.take (k + 1)) = told os (items.take k) ++ if overB os items[k].2 = true then [items[k].1] else [] := by
  unfold told
  rw [List.take_succ_eq_append_getElem hk, List.filter_append, List.map_append]
  by_cases h : overB os items[k].2 = true <;> simp [h]
theorem kept_snoc (os : Nat → Int) (items : List Item) (k : Nat) (hk : k < items.length) : kept os (items.take (k + 1)) = kept os (items.take k) ++ if overB os items[k].2 = true then [] else [items[k]] := by
  unfold kept
  rw [List.take_succ_eq_append_getElem hk, List.filter_append]
  by_cases h : overB os items[k].2 = true <;> simp [h]
theorem kept_le (os : Nat → Int) (items : List Item) (k : Nat) : (kept os (items.take k)).length ≤ k := Nat.le_trans (List.length_filter_le _ _) (List.length_take_le _ _)
theorem flat_len (l : List Item) : (l.flatMap itemCells).length = l.length * 9 := by
  induction l with
  | nil => rfl
  | cons x l ih => rw [List.flatMap_cons, List.length_append, ih, List.length_cons]; show 9 + _ = _; omega
theorem flat_at (l : List Item) (k j : Nat) (hk : k < l.length) (hj : j < 9) : (l.flatMap itemCells)[k * 9 + j]? = (itemCells l[k])[j]? := by
  induction l generalizing k with
  | nil => simp at hk
  | cons x l ih =>
    rw [List.flatMap_cons]
    have h9 : (itemCells x).length = 9 := rfl
    cases k with
    | zero => rw [List.getElem?_append_left (by omega)]; simp
    | succ k =>
      rw [List.getElem?_append_right (by omega), h9, show (k + 1) * 9 + j - 9 = k * 9 + j by omega, ih k (by simpa using hk)]
      simp

theorem tick_nil (w : World) : Calls Try.prog 13 #[.pointer none] w fun e w' => e = .returned (.slice none 0 0) ∧ w = w' := by
  go_enter Try.func13, Try.ntmps13
  go_wp2
  go_ret
  exact ⟨rfl, rfl⟩
/-- What is known of the items' block in the midst of a Tick: what was kept lies ahead, and from the k-th on it is as it was. -/
structure Mid (B : Nat) (os : Nat → Int) (items : List Item) (g cap : Nat) (cs : Array Value) (b : Nat) (w0 : World) (k : Nat) (vo : Value) (w : World) : Prop where
  out : w.ownsRow w0.heap.size 3 1 vo (told os (items.take k)).length ((told os (items.take k)).map (Value.int .i64))
  blk : Blk w b 52 cs
  row : ∃ cur, Blk w g 54 cur ∧ cur.size = cap * 9 ∧ cur.toList.take ((kept os (items.take k)).length * 9) = (kept os (items.take k)).flatMap itemCells ∧ ∀ i, k * 9 ≤ i → i < items.length * 9 → cur[i]? = (items.flatMap itemCells)[i]?
  fr : TFr B gT w0 w
def TickPost (B b : Nat) (os : Nat → Int) (last : Int) (items : List Item) (w : World) (e : Ending) (w' : World) : Prop :=
  ∃ v, e = .returned v ∧ w'.ownsRow w.heap.size 3 1 v (told os items).length ((told os items).map (Value.int .i64)) ∧ GRep B w' b os last (kept os items) ∧ TFr B gT w w'
set_option maxRecDepth 100000 in
theorem tick_empty {B b : Nat} {os : Nat → Int} {last : Int} {cs : Array Value} (w : World) (hr : Rep B w b os last [] cs (.slice none 0 0)) :
    Calls Try.prog 13 #[.pointer (some ⟨b, 0, none⟩)] w (TickPost B b os last [] w) := by
  obtain ⟨hb, hg, ho, hle⟩ := hr
  have hc9 := (hb.cell 9).trans hg.items
  have hf9 := hb.frozen 9
  have HB := hide hb; have HG := hide hg
  clear hb hg ho
  go_enter Try.func13, Try.ntmps13
  go_wp2
  refine wp_loop_rounds 1 ?_
  rw [rounds_succ]
  go_wp2
  go_ret
  have hb := unhide HB
  have hn : told os [] = [] := rfl
  refine ⟨.slice none 0 0, rfl, by rw [hn]; exact World.ownsRow_nil _ _ _ _, ⟨_, .slice none 0 0, hb.set_ 9 _, (unhide HG).setItems _, World.ownsRow_nil _ _ _ _, hle⟩, (TFr.refl B gT w).setCell (p := ⟨b, 9, none⟩) hb (by decide) hle _⟩

set_option maxRecDepth 100000 in
set_option maxHeartbeats 1000000 in
theorem tick_row {B b g cap : Nat} {os : Nat → Int} {last : Int} {items : List Item} {cs cur0 : Array Value} (w : World) (hb : Blk w b 52 cs) (hg : Gc os last (.slice (some ⟨g, 0, none⟩) items.length cap) cs) (hle : B ≤ b) (hgB : B ≤ g)
    (hrow : Blk w g 54 cur0) (hcap : items.length ≤ cap) (hcm : cap ≤ maxLen) (hsz : cur0.size = cap * 9) (hpre : ∀ i, i < items.length * 9 → cur0[i]? = (items.flatMap itemCells)[i]?) (hlen : items.length ≤ 10000) (hBw : B ≤ w.heap.size) :
    Calls Try.prog 13 #[.pointer (some ⟨b, 0, none⟩)] w (TickPost B b os last items w) := by
  obtain ⟨i0, hi0, hz0, hz1, hz2⟩ := info_parts infoInt
  obtain ⟨i1, hi1, hy0, hy1, hy2⟩ := info_parts infoI
  have hc9 := (hb.cell 9).trans hg.items
  have hM : Mid B os items g cap cs b w 0 (.slice none 0 0) w := ⟨World.ownsRow_nil _ _ _ _, hb, ⟨cur0, hrow, hsz, by simp [kept], fun i _ hi => hpre i hi⟩, TFr.refl _ _ _⟩
  have HM := hide hM
  have HB := hide hb; have HG := hide hg; have HR := hide hrow
  clear hM hb hg hrow hpre
  go_enter Try.func13, Try.ntmps13
  go_wp2
  go_loopw [3, 4, 19] (fun o l x wr => ∃ k : Nat, k ≤ items.length ∧ x = .int .i64 k ∧ l = .slice (some ⟨g, 0, none⟩) (kept os (items.take k)).length cap ∧ Hid (Mid B os items g cap cs b w k o wr)) (fun _ _ x _ => items.length - (intOf x).toNat)
  case atStart => exact ⟨0, by omega, rfl, rfl, HM⟩
  case round =>
    obtain ⟨k, hk, rfl, rfl, HK⟩ := hrel
    by_cases hlt : k < items.length
    · obtain ⟨hout, hbk, ⟨cur, hcur, hcsz, hckept, hcrest⟩, hfr⟩ := HK.out
      have hat : ∀ j, j < 9 → wr.cell? ⟨g, k * 9 + j, none⟩ = (itemCells items[k])[j]? := fun j hj => by
        rw [hcur.cell, hcrest _ (by omega) (by omega), flat_at _ _ _ hlt hj]
      have hts := told_snoc os items k hlt
      have hks := kept_snoc os items k hlt
      generalize items[k] = it at hat hts hks
      obtain ⟨wt, sf⟩ := it
      have q0 : wr.cell? ⟨g, k * 9, none⟩ = some (.int .i64 wt) := hat 0 (by omega)
      have q1 : wr.cell? ⟨g, k * 9 + 1, none⟩ = some (.int .i64 (sf 0)) := hat 1 (by omega)
      have q2 : wr.cell? ⟨g, k * 9 + 2, none⟩ = some (.int .i64 (sf 1)) := hat 2 (by omega)
      have q3 : wr.cell? ⟨g, k * 9 + 3, none⟩ = some (.int .i64 (sf 2)) := hat 3 (by omega)
      have q4 : wr.cell? ⟨g, k * 9 + 4, none⟩ = some (.int .i64 (sf 3)) := hat 4 (by omega)
      have q5 : wr.cell? ⟨g, k * 9 + 5, none⟩ = some (.int .i64 (sf 4)) := hat 5 (by omega)
      have q6 : wr.cell? ⟨g, k * 9 + 6, none⟩ = some (.int .i64 (sf 5)) := hat 6 (by omega)
      have q7 : wr.cell? ⟨g, k * 9 + 7, none⟩ = some (.int .i64 (sf 6)) := hat 7 (by omega)
      have q8 : wr.cell? ⟨g, k * 9 + 8, none⟩ = some (.int .i64 (sf 7)) := hat 8 (by omega)
      have HOUT := hide hout; have HBK := hide hbk; have HCUR := hide hcur; have HCK := hide hckept; have HCR := hide hcrest; have HFR := hide hfr; have HTS := hide hts; have HKS := hide hks
      clear hout hbk hcur hckept hcrest hfr hts hks hat
      have hjk := kept_le os items k
      have hto : (told os (items.take k)).length ≤ k := by unfold told; rw [List.length_map]; exact Nat.le_trans (List.length_filter_le _ _) (List.length_take_le _ _)
      generalize hX : (kept os (items.take k)).length = j at *
      have HX := hide hX; clear hX
      by_cases hov : overB os sf = true
      · go_wp2_with (first
          | (go_at_call 23; refine (over_calls sf _ (Blk.alloc (unhide HBK) _) (unhide HG)).mono ?_; rintro e w1 ⟨rfl, hb1⟩; rw [hov];
             have hx := (Blk.new wr 54 _).below hb1 (by simp); have p0 := hx.cell 0; have HX1 := hide hb1; clear hx hb1)
          | (at_builtin; refine wpList_append_own _ rfl (.tmp 27) (.tmp 30) 32 rfl w.heap.size 3 i0 (.int .i64 0) 1 8 Try.underlying32 hi0 hz0 hz1 hz2 rfl (by decide) u3 (told os (items.take k)).length ((told os (items.take k)).map (Value.int .i64)) rfl
               (World.ownsRow.alloc (own_below (World.ownsRow.alloc (unhide HOUT) _) (unhide HX1)) _) ⟨w1.heap.size, 0, none⟩ 1 1 [.int .i64 wt] rfl rfl (fun j u h => new_cell j u h) (fun u hu => by simp at hu; subst hu; rfl) (by simp only [maxLen]; omega) (by omega) ?c5 ?_;
             (case c5 => exact alloc_size _ (Nat.le_trans (unhide HFR).size (Nat.le_trans (by simp) (unhide HX1).size))); intro v2 w2 hown2 hg2 _; have HOWN2 := hide hown2; have HG2 := hide hg2; clear hown2 hg2))
        go_roundw
        case rel =>
          have e1 : told os (items.take (k + 1)) = told os (items.take k) ++ [wt] := by rw [HTS.out]; simp only [hov, if_true]
          have e2 : kept os (items.take (k + 1)) = kept os (items.take k) := by rw [HKS.out]; simp only [hov, if_true, List.append_nil]
          have hown1 := World.ownsRow.alloc (own_below (World.ownsRow.alloc (unhide HOUT) _) (unhide HX1)) (.cells #[.int .i64 wt] 3)
          refine ⟨k + 1, by omega, by go_num, by rw [e2, HX.out], ?_, ?_, ⟨cur, ?_, hcsz, ?_, fun i h1 h2 => HCR.out i (by omega) h2⟩, ?_⟩
          · rw [e1, List.length_append, List.map_append]; exact unhide HOWN2
          · exact blk_grown hown1 (((Blk.alloc (unhide HBK) _).below (unhide HX1) (Blk.alloc (unhide HBK) _).lt).alloc _) (unhide HG2) (by decide)
          · exact blk_grown hown1 (((Blk.alloc (unhide HCUR) _).below (unhide HX1) (Blk.alloc (unhide HCUR) _).lt).alloc _) (unhide HG2) (by decide)
          · rw [e2]; have := HCK.out; rw [HX.out]; exact this
          · exact TFr.grown_new ((((unhide HFR).alloc _).step_below (unhide HX1)).alloc _) hown1 (unhide HG2) (Nat.le_refl _)
        case measure => simp [intOf]; omega
      · have hov' : overB os sf = false := Bool.eq_false_iff.2 hov
        go_wp2_with (first
          | (go_at_call 23; refine (over_calls sf _ (Blk.alloc (unhide HBK) _) (unhide HG)).mono ?_; rintro e w1 ⟨rfl, hb1⟩; rw [hov'];
             have hx := (Blk.new wr 54 _).below hb1 (by simp); have p0 := hx.cell 0; have p1 := hx.cell 1; have p2 := hx.cell 2; have p3 := hx.cell 3; have p4 := hx.cell 4; have p5 := hx.cell 5; have p6 := hx.cell 6; have p7 := hx.cell 7; have p8 := hx.cell 8; have HX1 := hide hb1; clear hx hb1)
          | (at_builtin; refine wpList_append_run rfl (.tmp 32) (.tmp 34) 50 50 rfl (run_append_room_sz _ 50 _ 54 i1 9 Try.underlying50 hi1 hy1 g j cap cur (((Blk.alloc (unhide HCUR) _).below (unhide HX1) (Blk.alloc (unhide HCUR) _).lt).alloc _) ⟨w1.heap.size, 0, none⟩ 1 1 (itemCells (wt, sf)) rfl (fun j u h => new_cell j u h) (itemCells_one _) (by omega) (by have : (itemCells (wt, sf)).length = 9 := rfl; omega)) ?_))
        go_roundw
        case rel =>
          have e1 : told os (items.take (k + 1)) = told os (items.take k) := by rw [HTS.out]; simp only [hov', Bool.false_eq_true, if_false, List.append_nil]
          have e2 : kept os (items.take (k + 1)) = kept os (items.take k) ++ [(wt, sf)] := by rw [HKS.out]; simp only [hov', Bool.false_eq_true, if_false]
          have h9 : (itemCells (wt, sf)).length = 9 := rfl
          have hfit : j * 9 + (itemCells (wt, sf)).length ≤ cur.size := by omega
          have hbc := ((Blk.alloc (unhide HCUR) (.cells #[.int .i64 wt, .int .i64 (sf 0), .int .i64 (sf 1), .int .i64 (sf 2), .int .i64 (sf 3), .int .i64 (sf 4), .int .i64 (sf 5), .int .i64 (sf 6), .int .i64 (sf 7)] 54)).below (unhide HX1) (Blk.alloc (unhide HCUR) _).lt).alloc (.cells #[.int .i64 wt, .int .i64 (sf 0), .int .i64 (sf 1), .int .i64 (sf 2), .int .i64 (sf 3), .int .i64 (sf 4), .int .i64 (sf 5), .int .i64 (sf 6), .int .i64 (sf 7)] 54)
          refine ⟨k + 1, by omega, by go_num, by rw [e2, List.length_append, HX.out]; rfl, ?_, ?_, ⟨_, hbc.setRow _, by rw [splice_size _ _ _ hfit]; exact hcsz, ?_, fun i h1 h2 => by rw [splice_rest _ _ _ hfit i (by omega)]; exact HCR.out i (by omega) h2⟩, ?_⟩
          · rw [e1]
            exact own_setRow (World.ownsRow.alloc (own_below (World.ownsRow.alloc (unhide HOUT) _) (unhide HX1)) _) hbc (by decide)
          · exact (((Blk.alloc (unhide HBK) _).below (unhide HX1) (Blk.alloc (unhide HBK) _).lt).alloc _).setRow_far (Blk.ne_ (((Blk.alloc (unhide HBK) _).below (unhide HX1) (Blk.alloc (unhide HBK) _).lt).alloc _) hbc (by decide)) _
          · rw [e2, List.length_append, HX.out, show (j + [(wt, sf)].length) * 9 = j * 9 + (itemCells (wt, sf)).length by simp [h9]; omega, splice_take _ _ _ hfit, List.flatMap_append, HCK.out]
            simp
          · exact TFr.setRow ((((unhide HFR).alloc _).step_below (unhide HX1)).alloc _) hbc (by decide) hgB _
        case measure => simp [intOf]; omega
    · obtain ⟨hout, hbk, ⟨cur, hcur, hcsz, hckept, hcrest⟩, hfr⟩ := HK.out
      have hk9 := (hbk.cell 9).trans (unhide HG).items
      have hf9 := hbk.frozen 9
      have HOUT := hide hout; have HBK := hide hbk; have HCUR := hide hcur; have HCK := hide hckept; have HCR := hide hcrest; have HFR := hide hfr
      clear hout hbk hcur hckept hcrest hfr
      go_wp2
      go_ret
      obtain rfl : k = items.length := by omega
      have hbk := unhide HBK
      have hcur := unhide HCUR
      have hout := unhide HOUT
      have hckept := HCK.out
      rw [List.take_length] at hout hckept ⊢
      have hkl := kept_le os items items.length
      rw [List.take_length] at hkl
      refine ⟨u3, rfl, own_set (p := ⟨b, 9, none⟩) hout hbk (by decide) _, ⟨_, .slice (some ⟨g, 0, none⟩) (kept os items).length cap, hbk.set_ 9 _, (unhide HG).setItems _, ?_, hle⟩, ?_⟩
      · exact own_set (p := ⟨b, 9, none⟩) (own_of_blk hcur hgB (by omega) hcm hcsz hckept (flat_len _)) hbk (by decide) _
      · exact TFr.setCell (p := ⟨b, 9, none⟩) (unhide HFR) hbk (by decide) hle _

theorem tick_calls {B b : Nat} {os : Nat → Int} {last : Int} {items : List Item} (w : World) (hr : GRep B w b os last items) (hlen : items.length ≤ 10000) (hBw : B ≤ w.heap.size) :
    Calls Try.prog 13 #[.pointer (some ⟨b, 0, none⟩)] w (TickPost B b os last items w) := by
  obtain ⟨cs, v, hb, hg, ho, hle⟩ := hr
  rcases ho with ⟨hl, ⟨rfl, hn⟩ | ⟨g, cap, cur, rfl, hgB, hh, hnc, hcm, hsz, ht⟩⟩
  · obtain rfl : items = [] := List.eq_nil_of_length_eq_zero hn
    exact tick_empty w ⟨hb, hg, World.ownsRow_nil _ _ _ _, hle⟩
  · refine tick_row w hb hg hle hgB hh hnc hcm hsz (fun i hi => ?_) hlen hBw
    rw [← ht, List.getElem?_take_of_lt hi]
    simp
end Go.Proofs.Ytddheambeefhpaa.Gr
