/- chapter 18: HelperCount, the plain law -/
import Derived.Test.YtdbpnkemlmagoaaEigO
namespace Go.Proofs.Ytdbpnkemlmagoaa.Va
open Go
set_option linter.unusedVariables false
set_option linter.unusedSimpArgs false
set_option maxRecDepth 100000
def Ke (a b : List Wht) : Prop := ∀ (i : Nat) w, a[i]? = some w → b[i]? = some w ∨ b[i]? = some junk
theorem Ke.refl (a : List Wht) : Ke a a := fun _ _ h => .inl h
theorem Ke.fg {a b : List Wht} (h : Ke a b) (k x : Int) : Ke a (b.map (fgW k x)) := fun i w hw => by
  rw [List.getElem?_map]
  rcases h i w hw with h | h
  · rw [h]
    simp only [Option.map_some, fgW]
    split
    · exact .inr rfl
    · exact .inl rfl
  · rw [h]
    simp only [Option.map_some, fgW]
    split
    · exact .inr rfl
    · exact .inr rfl
def KeS (s s' : Sta) : Prop := Ke s.regs s'.regs ∧ Ke s.slots s'.slots
theorem KeS.fg {s s' : Sta} (h : KeS s s') (k x : Int) : KeS s (fgS s' k x) := ⟨h.1.fg k x, h.2.fg k x⟩
theorem want_ke {s : Sta} {c : Cal} (h : KeS s c.st) (b : Bool) (e : Int) : KeS s (wantS c b e).st := by rw [wst]; exact h
theorem lock_ke {s : Sta} {K : Kx} {c : Cal} (h : KeS s c.st) (k : Int) : KeS s (lockS K c k).st := by rw [lkst]; exact h
theorem then_ke {s : Sta} {c : Cal} {f : Cal → Cal} (h : KeS s c.st) (hf : ∀ c, KeS s c.st → KeS s (f c).st) : KeS s (thenS c f).st := by
  unfold thenS
  split
  · exact hf c h
  · exact h
theorem own_ke {s : Sta} {c : Cal} (h : KeS s c.st) (t : Int) (m : Bool) : KeS s (ownS c t m).st := ⟨h.1, h.2⟩
theorem spend_ke {s : Sta} {c : Cal} (h : KeS s c.st) (w : Wht) : KeS s (spendS c w).st := (show KeS s { c.st with refs := no w.id c.st.refs } from ⟨h.1, h.2⟩).fg _ _
theorem loosen_ke {s : Sta} {c : Cal} (h : KeS s c.st) : KeS s (loosenS c).st := h.fg _ _
theorem into_ke {s : Sta} {K : Kx} {c : Cal} (h : KeS s c.st) (k : Int) : KeS s (intoS K c k).st := then_ke (want_ke (want_ke (lock_ke h k) _ _) _ _) fun c hc => spend_ke hc _
theorem done_ke (K : Kx) (s : Sta) (what n : Int) : KeS s (doneS K s what n).st := by
  have hb : KeS s (begC s n).st := ⟨Ke.refl _, Ke.refl _⟩
  unfold doneS
  generalize begC s n = c at hb ⊢
  split
  · unfold objectS
    split
    · exact then_ke (want_ke hb _ _) fun c hc => own_ke hc _ _
    split
    · exact then_ke (want_ke hb _ _) fun c hc => spend_ke hc _
    · exact then_ke (want_ke (want_ke hb _ _) _ _) fun c hc => own_ke hc _ _
  split
  · unfold tableS
    simp only
    split
    · split
      · exact then_ke (want_ke (want_ke (want_ke hb _ _) _ _) _ _) fun c hc => ⟨hc.1, hc.2⟩
      · exact want_ke (want_ke hb _ _) _ _
    · exact want_ke hb _ _
  split
  · unfold regionS
    split
    · have := want_ke (want_ke (want_ke hb (handS c.x [5]) 8) (lockF K.l c.x.type 12) 7) (decide (c.st.lock = 0)) 9
      exact ⟨this.1, this.2⟩
    split
    · have := want_ke hb (heldS c) 9
      exact (show KeS s (setL (wantS c (heldS c) 9) 0).st from ⟨this.1, this.2⟩).fg _ _
    split
    · have := want_ke hb (!c.st.sec) 9
      exact ⟨this.1, this.2⟩
    · have := want_ke hb (c.st.sec && decide (c.st.lock = 0)) 9
      exact ((show KeS s (setX (wantS c (c.st.sec && decide (c.st.lock = 0)) 9) false).st from ⟨this.1, this.2⟩).fg _ _).fg _ _
  split
  · unfold listS
    split
    · exact into_ke hb _
    split
    · exact lock_ke hb _
    · exact own_ke (loosen_ke (lock_ke hb _)) _ _
  split
  · unfold treeS
    split
    · exact into_ke hb _
    split
    · exact lock_ke hb _
    split
    · exact then_ke (want_ke (lock_ke hb _) _ _) fun c hc => own_ke (loosen_ke hc) _ _
    · exact want_ke (want_ke (want_ke hb _ _) _ _) _ _
  split
  · unfold pointerS
    split
    · exact want_ke (want_ke (want_ke hb _ _) _ _) _ _
    · exact then_ke (want_ke (want_ke (want_ke (want_ke hb _ _) _ _) _ _) _ _) fun c hc => own_ke (by split; exact spend_ke hc _; exact hc) _ _
  · exact hb
theorem filt_all {i : Int} : ∀ {xs : List Int}, i ∉ xs → no i xs = xs
  | [], _ => rfl
  | x :: xs, h => by
    have hx : x ≠ i := fun h' => h (by simp [h'])
    have ht := filt_all (i := i) (xs := xs) (fun h' => h (by simp [h']))
    unfold no at ht ⊢
    rw [List.filter_cons_of_pos (by simp [hx]), ht]
theorem no_len {i : Int} : ∀ {xs : List Int}, xs.Pairwise (· < ·) → i ∈ xs → ((no i xs).length : Int) = (xs.length : Int) - 1
  | x :: xs, hp, h => by
    rw [List.pairwise_cons] at hp
    by_cases hx : x = i
    · subst hx
      have hn : x ∉ xs := fun h' => Int.lt_irrefl _ (hp.1 x h')
      have := filt_all hn
      unfold no at this ⊢
      rw [List.filter_cons_of_neg (by simp), this, List.length_cons]
      omega
    · have ht := no_len hp.2 (by simpa [Ne.symm hx] using h)
      unfold no at ht ⊢
      rw [List.filter_cons_of_pos (by simp [hx]), List.length_cons, List.length_cons]
      omega
def moreS (s : Sta) (what : Int) : Int :=
  if what = 1 ∨ what = 3 ∨ what = 11 ∨ what = 12 ∨ what = 18 then 1
  else if what = 2 ∨ what = 9 ∨ what = 10 ∨ what = 14 then -1
  else if what = 19 ∧ (at0 s.regs 2).kind = 2 then 1 else 0
theorem hand_k {w : Wht} {a : Int} (h : handS w [a] = true) : w.kind = a := by
  simp [handS] at h; exact h.2
theorem reg_mem {s : Sta} (h : SOk s) {i : Int} (h0 : 0 ≤ i) (h1 : i < 10) : at0 s.regs i ∈ s.regs := by
  have := at0_get (l := s.regs) h0 (by rw [h.regs]; omega)
  exact List.mem_of_getElem? this
theorem into_cnt {K : Kx} {s : Sta} {c : Cal} (hp : s.refs.Pairwise (· < ·)) (h : c.st = s) (hg : c.y.kind = 3 → c.y.id ∈ s.refs) (k : Int) (he : (intoS K c k).err = 0) : ((intoS K c k).st.refs.length : Int) = s.refs.length + -1 := by
  unfold intoS at he ⊢
  refine then_err (Q := fun c' => (c'.st.refs.length : Int) = s.refs.length + -1) he fun h0 => ?_
  obtain ⟨e1, _⟩ := want_err h0 (by decide)
  obtain ⟨_, e2⟩ := want_err e1 (by decide)
  show ((no c.y.id (wantS (wantS (lockS K c k) _ _) _ _).st.refs).length : Int) = _
  rw [wst, wst, lkst, h, no_len hp (hg (hand_k e2))]
  rfl
theorem own_cnt {s : Sta} {c : Cal} (t : Int) (m : Bool) (h : c.st.refs = s.refs) : ((ownS c t m).st.refs.length : Int) = s.refs.length + 1 := by
  show ((c.st.refs ++ [c.st.next]).length : Int) = _
  rw [h, List.length_append]; rfl
theorem count_plain {K : Kx} {s : Sta} {what n : Int} (hS : SoundP s) (hok : SOk s) (he : (doneS K s what n).err = 0) : ((doneS K s what n).st.refs.length : Int) = s.refs.length + moreS s what := by
  have hp := hS.rise
  have hb : (begC s n).st = s := rfl
  have hx : (begC s n).x.kind = 3 → (begC s n).x.id ∈ s.refs := (hS.good _ (List.mem_append_left _ (reg_mem hok (i := 1) (by decide) (by decide)))).1
  have hy : (begC s n).y.kind = 3 → (begC s n).y.id ∈ s.refs := (hS.good _ (List.mem_append_left _ (reg_mem hok (i := 2) (by decide) (by decide)))).1
  have hyy : (begC s n).y = at0 s.regs 2 := rfl
  unfold moreS
  rw [← hyy]
  unfold doneS at he ⊢
  generalize begC s n = c at hb hx hy he ⊢
  split at he
  · rename_i h1
    rw [if_pos h1]
    unfold objectS at he ⊢
    split at he
    · rename_i h2
      rw [if_pos h2, if_pos (by omega)]
      exact then_err (Q := fun c' => (c'.st.refs.length : Int) = s.refs.length + 1) he fun _ => own_cnt _ _ (by rw [wst, hb])
    rename_i h2
    rw [if_neg h2]
    split at he
    · rename_i h3
      rw [if_pos h3, if_neg (by omega), if_pos (by omega)]
      refine then_err (Q := fun c' => (c'.st.refs.length : Int) = s.refs.length + -1) he fun h0 => ?_
      obtain ⟨_, e2⟩ := want_err h0 (by decide)
      show ((no (wantS c _ _).x.id (wantS c _ _).st.refs).length : Int) = _
      rw [wst, wx, hb, no_len hp (hx (hand_k e2))]
      rfl
    · rename_i h3
      rw [if_neg h3, if_pos (by omega)]
      exact then_err (Q := fun c' => (c'.st.refs.length : Int) = s.refs.length + 1) he fun _ => own_cnt _ _ (by rw [wst, wst, hb])
  rename_i h1
  rw [if_neg h1]
  split at he
  · rename_i h2
    rw [if_pos h2, if_neg (by omega), if_neg (by omega), if_neg (by omega), Int.add_zero]
    unfold tableS
    simp only
    split
    · split
      · unfold thenS
        split
        · show ((wantS (wantS (wantS c _ _) _ _) _ _).st.refs.length : Int) = _
          rw [wst, wst, wst, hb]
        · rw [wst, wst, wst, hb]
      · show ((wantS (wantS c _ _) _ _).st.refs.length : Int) = _
        rw [wst, wst, hb]
    · rw [wst, hb]
  rename_i h2
  rw [if_neg h2]
  split at he
  · rename_i h3
    rw [if_pos h3, if_neg (by omega), if_neg (by omega), if_neg (by omega), Int.add_zero]
    unfold regionS
    split
    · show ((wantS (wantS (wantS c _ _) _ _) _ _).st.refs.length : Int) = _
      rw [wst, wst, wst, hb]
    split
    · show ((wantS c _ _).st.refs.length : Int) = _
      rw [wst, hb]
    split
    · show ((wantS c _ _).st.refs.length : Int) = _
      rw [wst, hb]
    · show ((wantS c _ _).st.refs.length : Int) = _
      rw [wst, hb]
  rename_i h3
  rw [if_neg h3]
  split at he
  · rename_i h4
    rw [if_pos h4]
    unfold listS at he ⊢
    split at he
    · rename_i h5
      rw [if_pos h5, if_neg (by omega), if_pos (by omega)]
      exact into_cnt hp hb hy _ he
    rename_i h5
    rw [if_neg h5]
    split at he
    · rename_i h6
      rw [if_pos h6, if_neg (by omega), if_neg (by omega), if_neg (by omega), Int.add_zero]
      show ((lockS K c 5).st.refs.length : Int) = _
      rw [lkst, hb]
    · rename_i h6
      rw [if_neg h6, if_pos (by omega)]
      exact own_cnt _ _ (by show (lockS K c 5).st.refs = _; rw [lkst, hb])
  rename_i h4
  rw [if_neg h4]
  split at he
  · rename_i h5
    rw [if_pos h5]
    unfold treeS at he ⊢
    split at he
    · rename_i h6
      rw [if_pos h6, if_neg (by omega), if_pos (by omega)]
      exact into_cnt hp hb hy _ he
    rename_i h6
    rw [if_neg h6]
    split at he
    · rename_i h7
      rw [if_pos h7, if_neg (by omega), if_neg (by omega), if_neg (by omega), Int.add_zero]
      show ((lockS K c 6).st.refs.length : Int) = _
      rw [lkst, hb]
    rename_i h7
    rw [if_neg h7]
    split at he
    · rename_i h8
      rw [if_pos h8, if_pos (by omega)]
      exact then_err (Q := fun c' => (c'.st.refs.length : Int) = s.refs.length + 1) he fun _ => own_cnt _ _ (by show (wantS (lockS K c 6) _ _).st.refs = _; rw [wst, lkst, hb])
    · rename_i h8
      rw [if_neg h8, if_neg (by omega), if_neg (by omega), if_neg (by omega), Int.add_zero]
      show ((wantS (wantS (wantS c _ _) _ _) _ _).st.refs.length : Int) = _
      rw [wst, wst, wst, hb]
  rename_i h5
  rw [if_neg h5]
  split at he
  · rename_i h6
    rw [if_pos h6]
    unfold pointerS at he ⊢
    split at he
    · rename_i h7
      rw [if_pos h7, if_neg (by omega), if_neg (by omega), if_neg (by omega), Int.add_zero]
      show ((wantS (wantS (wantS c _ _) _ _) _ _).st.refs.length : Int) = _
      rw [wst, wst, wst, hb]
    · rename_i h7
      rw [if_neg h7, if_neg (by omega), if_neg (by omega)]
      refine then_err (Q := fun c' => (c'.st.refs.length : Int) = s.refs.length + _) he fun h0 => ?_
      obtain ⟨e1, _⟩ := want_err h0 (by decide)
      obtain ⟨_, e2⟩ := want_err e1 (by decide)
      cases ho : ownY c
      · have h2 : c.y.kind = 2 := by
          unfold fitY at e2
          rw [ho] at e2
          simpa using e2
        rw [if_pos (show what = 19 ∧ c.y.kind = 2 from ⟨by omega, h2⟩)]
        refine own_cnt _ _ ?_
        show (wantS (wantS (wantS (wantS c _ _) _ _) _ _) _ _).st.refs = _
        rw [wst, wst, wst, wst, hb]
      · have h3 : c.y.kind = 3 := hand_k ho
        rw [if_neg (show ¬ (what = 19 ∧ c.y.kind = 2) by omega)]
        show ((no c.y.id (wantS (wantS (wantS (wantS c _ _) _ _) _ _) _ _).st.refs ++ [_]).length : Int) = _
        rw [wst, wst, wst, wst, hb, List.length_append, Int.natCast_add, no_len hp (hy h3)]
        simp only [List.length_singleton]
        omega
  · cases he
end Go.Proofs.Ytdbpnkemlmagoaa.Va
