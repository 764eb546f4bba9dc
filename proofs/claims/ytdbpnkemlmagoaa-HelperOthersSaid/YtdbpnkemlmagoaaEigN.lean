/- chapter 18: HelperFresh -/
import Derived.Test.YtdbpnkemlmagoaaEigM
namespace Go.Proofs.Ytdbpnkemlmagoaa.Va
open Go
set_option linter.unusedVariables false
set_option linter.unusedSimpArgs false
set_option maxRecDepth 100000
theorem want_err {c : Cal} {b : Bool} {e : Int} (h : (wantS c b e).err = 0) (he : e ≠ 0) : c.err = 0 ∧ b = true := by
  unfold wantS at h
  split at h
  · exact absurd h he
  · rename_i hn
    refine ⟨h, ?_⟩
    cases b
    · exact absurd ⟨h, rfl⟩ hn
    · rfl
theorem then_err {c : Cal} {f : Cal → Cal} {Q : Cal → Prop} (he : (thenS c f).err = 0) (h : c.err = 0 → Q (f c)) : Q (thenS c f) := by
  unfold thenS at he ⊢
  by_cases ho : okS c = true
  · rw [if_pos ho]; exact h (okS_iff.1 ho)
  · rw [if_neg ho] at he
    exact absurd (okS_iff.2 he) ho
def FreshP (s : Sta) (c : Cal) : Prop := ((c.tells.kind = 3 ∨ c.tells.kind = 5) ∧ c.tells.id = s.next ∧ c.st.next = IntKind.i64.wrap (s.next + 1)) ∨ (¬ (c.tells.kind = 3 ∨ c.tells.kind = 5) ∧ c.st.next = s.next)
theorem nk {c c' : Cal} (h : c'.tells = c.tells) (hz : ¬ (c.tells.kind = 3 ∨ c.tells.kind = 5)) : ¬ (c'.tells.kind = 3 ∨ c'.tells.kind = 5) := by rw [h]; exact hz
theorem own_fresh {s : Sta} {c : Cal} (h : c.st.next = s.next) (t : Int) (m : Bool) : FreshP s (ownS c t m) := .inl ⟨.inl rfl, h, by show IntKind.i64.wrap (c.st.next + 1) = _; rw [h]⟩
theorem bit_fresh {s : Sta} {c : Cal} (h : c.st.next = s.next) : FreshP s (bitS c) := .inr ⟨by show ¬ ((1 : Int) = 3 ∨ (1 : Int) = 5); decide, h⟩
theorem into_fresh {K : Kx} {s : Sta} {c : Cal} (h : c.st.next = s.next) (k : Int) (he : (intoS K c k).err = 0) : FreshP s (intoS K c k) := by
  unfold intoS at he ⊢
  refine then_err he fun _ => bit_fresh ?_
  show (wantS (wantS (lockS K c k) _ _) _ _).st.next = _
  rw [wst, wst, lkst, h]
theorem fresh_plain {K : Kx} {s : Sta} {what n : Int} (he : (doneS K s what n).err = 0) : FreshP s (doneS K s what n) := by
  have hb : (begC s n).st.next = s.next := rfl
  have ht : (begC s n).tells.kind = 1 := rfl
  unfold doneS at he ⊢
  generalize begC s n = c at hb ht he ⊢
  have hz : ¬ (c.tells.kind = 3 ∨ c.tells.kind = 5) := by omega
  split at he
  · rename_i h1
    rw [if_pos h1]
    unfold objectS at he ⊢
    split at he
    · rename_i h2
      rw [if_pos h2]
      exact then_err he fun _ => own_fresh (by rw [wst, hb]) _ _
    rename_i h2
    rw [if_neg h2]
    split at he
    · rename_i h3
      rw [if_pos h3]
      refine then_err (Q := FreshP s) he fun _ => .inr ⟨?_, ?_⟩
      · exact nk (c := c) (wtells _ _ _) hz
      · show (wantS c _ _).st.next = _; rw [wst, hb]
    · rename_i h3
      rw [if_neg h3]
      exact then_err he fun _ => own_fresh (by rw [wst, wst, hb]) _ _
  rename_i h1
  rw [if_neg h1]
  split at he
  · rename_i h2
    rw [if_pos h2]
    unfold tableS at he ⊢
    simp only at he ⊢
    split at he
    · rename_i h3
      rw [if_pos h3]
      split at he
      · rename_i h4
        rw [if_pos h4]
        refine then_err (Q := FreshP s) he fun _ => .inl ⟨.inr rfl, ?_, ?_⟩
        · show (wantS (wantS (wantS c _ _) _ _) _ _).st.next = _; rw [wst, wst, wst, hb]
        · show IntKind.i64.wrap ((wantS (wantS (wantS c _ _) _ _) _ _).st.next + 1) = _; rw [wst, wst, wst, hb]
      · rename_i h4
        rw [if_neg h4]
        exact bit_fresh (by rw [wst, wst, hb])
    · rename_i h3
      rw [if_neg h3]
      exact .inr ⟨by rw [wtells]; exact hz, by rw [wst, hb]⟩
  rename_i h2
  rw [if_neg h2]
  split at he
  · rename_i h3
    rw [if_pos h3]
    unfold regionS
    split
    · exact .inr ⟨nk (c := c) (by show (wantS (wantS (wantS c _ _) _ _) _ _).tells = _; rw [wtells, wtells, wtells]) hz, by show (wantS (wantS (wantS c _ _) _ _) _ _).st.next = _; rw [wst, wst, wst, hb]⟩
    split
    · exact .inr ⟨nk (c := c) (wtells _ _ _) hz, by show (wantS c _ _).st.next = _; rw [wst, hb]⟩
    split
    · exact .inr ⟨nk (c := c) (wtells _ _ _) hz, by show (wantS c _ _).st.next = _; rw [wst, hb]⟩
    · exact .inr ⟨nk (c := c) (wtells _ _ _) hz, by show (wantS c _ _).st.next = _; rw [wst, hb]⟩
  rename_i h3
  rw [if_neg h3]
  split at he
  · rename_i h4
    rw [if_pos h4]
    unfold listS at he ⊢
    split at he
    · rename_i h5
      rw [if_pos h5]
      exact into_fresh hb _ he
    rename_i h5
    rw [if_neg h5]
    split at he
    · rename_i h6
      rw [if_pos h6]
      exact .inr ⟨by show ¬ ((4 : Int) = 3 ∨ (4 : Int) = 5); decide, by show (lockS K c 5).st.next = _; rw [lkst, hb]⟩
    · rename_i h6
      rw [if_neg h6]
      exact own_fresh (by show (lockS K c 5).st.next = _; rw [lkst, hb]) _ _
  rename_i h4
  rw [if_neg h4]
  split at he
  · rename_i h5
    rw [if_pos h5]
    unfold treeS at he ⊢
    split at he
    · rename_i h6
      rw [if_pos h6]
      exact into_fresh hb _ he
    rename_i h6
    rw [if_neg h6]
    split at he
    · rename_i h7
      rw [if_pos h7]
      exact .inr ⟨by show ¬ ((4 : Int) = 3 ∨ (4 : Int) = 5); decide, by show (lockS K c 6).st.next = _; rw [lkst, hb]⟩
    rename_i h7
    rw [if_neg h7]
    split at he
    · rename_i h8
      rw [if_pos h8]
      exact then_err he fun _ => own_fresh (by show (wantS (lockS K c 6) _ _).st.next = _; rw [wst, lkst, hb]) _ _
    · rename_i h8
      rw [if_neg h8]
      obtain ⟨e1, _⟩ := want_err (c := wantS (wantS c (handS c.x [4]) 8) (decide ((lnF K c).kind = 6)) 7) he (by decide)
      obtain ⟨e2, _⟩ := want_err e1 (by decide)
      obtain ⟨_, e3⟩ := want_err e2 (by decide)
      have hk : c.x.kind = 4 := by
        simp [handS] at e3
        exact e3.2
      refine .inr ⟨?_, ?_⟩
      · show ¬ ((wantS (wantS (wantS c _ _) _ _) _ _).x.kind = 3 ∨ _)
        rw [wx, wx, wx]
        show ¬ (c.x.kind = 3 ∨ (wantS (wantS (wantS c _ _) _ _) _ _).x.kind = 5)
        rw [wx, wx, wx]; omega
      · show (wantS (wantS (wantS c _ _) _ _) _ _).st.next = _
        rw [wst, wst, wst, hb]
  rename_i h5
  rw [if_neg h5]
  split at he
  · rename_i h6
    rw [if_pos h6]
    unfold pointerS at he ⊢
    split at he
    · rename_i h7
      rw [if_pos h7]
      exact .inr ⟨by show ¬ ((6 : Int) = 3 ∨ (6 : Int) = 5); decide, by show (wantS (wantS (wantS c _ _) _ _) _ _).st.next = _; rw [wst, wst, wst, hb]⟩
    · rename_i h7
      rw [if_neg h7]
      refine then_err he fun _ => own_fresh ?_ _ _
      split
      · show (wantS (wantS (wantS (wantS c _ _) _ _) _ _) _ _).st.next = _; rw [wst, wst, wst, wst, hb]
      · rw [wst, wst, wst, wst, hb]
  · cases he
end Go.Proofs.Ytdbpnkemlmagoaa.Va
