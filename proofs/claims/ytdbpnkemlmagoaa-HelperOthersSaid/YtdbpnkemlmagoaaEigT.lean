/- chapter 18: HelperOthers, the plain law -/
import Derived.Test.YtdbpnkemlmagoaaEigS
namespace Go.Proofs.Ytdbpnkemlmagoaa.Va
open Go
set_option linter.unusedVariables false
set_option linter.unusedSimpArgs false
set_option maxRecDepth 100000
/-- what is done to registers and slots that play no part -/
structure Aside (f g : List Wht → List Wht) : Prop where
  f1 : ∀ l, at0 (f l) 1 = at0 l 1
  f2 : ∀ l, at0 (f l) 2 = at0 l 2
  fm : ∀ l k i, f (l.map (fgW k i)) = (f l).map (fgW k i)
  gm : ∀ l k i, g (l.map (fgW k i)) = (g l).map (fgW k i)
  fe : ∀ (w : Wht) (l : List Wht), f (w :: (List.replicate 5 junk ++ l.drop 6)) = w :: (List.replicate 5 junk ++ (f l).drop 6)
def asS (f g : List Wht → List Wht) (s : Sta) : Sta := { s with regs := f s.regs, slots := g s.slots }
def asC (f g : List Wht → List Wht) (c : Cal) : Cal := { c with st := asS f g c.st }
variable {f g : List Wht → List Wht}
theorem as_want (c : Cal) (b : Bool) (e : Int) : wantS (asC f g c) b e = asC f g (wantS c b e) := by
  unfold wantS
  show (if c.err = 0 ∧ b = false then _ else _) = _
  split <;> rfl
theorem as_lock (K : Kx) (c : Cal) (k : Int) : lockS K (asC f g c) k = asC f g (lockS K c k) := by
  unfold lockS
  rw [as_want, as_want]
  rfl
theorem as_then (c : Cal) {u u' : Cal → Cal} (h : ∀ c, u (asC f g c) = asC f g (u' c)) : thenS (asC f g c) u = asC f g (thenS c u') := by
  unfold thenS
  show (if okS c = true then _ else _) = _
  split
  · exact h c
  · rfl
theorem as_fg (ha : Aside f g) (s : Sta) (k i : Int) : fgS (asS f g s) k i = asS f g (fgS s k i) := by
  unfold fgS asS
  simp only [ha.fm, ha.gm]
theorem as_spend (ha : Aside f g) (c : Cal) (w : Wht) : spendS (asC f g c) w = asC f g (spendS c w) := by
  unfold spendS asC
  have := as_fg ha { c.st with refs := no w.id c.st.refs } 3 w.id
  unfold asS at this ⊢
  simp only [this]
theorem as_loosen (ha : Aside f g) (c : Cal) : loosenS (asC f g c) = asC f g (loosenS c) := by
  unfold loosenS asC
  simp only [as_fg ha]
theorem as_fgC (ha : Aside f g) (c : Cal) (k i : Int) : fgC (asC f g c) k i = asC f g (fgC c k i) := by
  unfold fgC asC
  simp only [as_fg ha]
theorem as_own (c : Cal) (t : Int) (m : Bool) : ownS (asC f g c) t m = asC f g (ownS c t m) := rfl
theorem as_into (ha : Aside f g) (K : Kx) (c : Cal) (k : Int) : intoS K (asC f g c) k = asC f g (intoS K c k) := by
  unfold intoS
  rw [as_lock, as_want, as_want]
  exact as_then _ fun c1 => by rw [show (asC f g c).y = c.y from rfl, as_spend ha]; rfl
theorem as_object (ha : Aside f g) (K : Kx) (c : Cal) (what : Int) : objectS K (asC f g c) what = asC f g (objectS K c what) := by
  unfold objectS
  simp only [as_want]
  split
  · exact as_then _ fun c1 => rfl
  split
  · exact as_then _ fun c1 => as_spend ha _ _
  · exact as_then _ fun c1 => rfl
theorem as_table (ha : Aside f g) (K : Kx) (c : Cal) (what : Int) : tableS K (asC f g c) what = asC f g (tableS K c what) := by
  unfold tableS
  simp only
  rw [as_want, as_want, as_want, as_want]
  show (if okS (wantS c (decide (c.n < (K.ms.length : Int))) 1) = true then _ else _) = _
  split
  · split
    · exact as_then _ fun c1 => rfl
    · rfl
  · rfl
theorem as_region (ha : Aside f g) (K : Kx) (c : Cal) (what : Int) : regionS K (asC f g c) what = asC f g (regionS K c what) := by
  unfold regionS
  rw [as_want, as_want, as_want, as_want, as_want, as_want]
  split
  · rfl
  split
  · exact as_loosen ha (setL (wantS c (heldS c) 9) 0)
  split
  · rfl
  · show fgC (fgC (asC f g (setX (wantS c (c.st.sec && decide (c.st.lock = 0)) 9) false)) 5 0) 6 0 = _
    rw [as_fgC ha, as_fgC ha]
theorem as_list (ha : Aside f g) (K : Kx) (c : Cal) (what : Int) : listS K (asC f g c) what = asC f g (listS K c what) := by
  unfold listS
  split
  · exact as_into ha _ _ _
  split
  · rw [as_lock]; rfl
  · rw [as_lock, as_loosen ha]; rfl
theorem as_tree (ha : Aside f g) (K : Kx) (c : Cal) (what : Int) : treeS K (asC f g c) what = asC f g (treeS K c what) := by
  unfold treeS
  split
  · exact as_into ha _ _ _
  split
  · rw [as_lock]; rfl
  split
  · rw [as_lock, as_want]
    exact as_then _ fun c1 => by rw [as_loosen ha]; rfl
  · rw [as_want, as_want, as_want]; rfl
theorem as_pointer (ha : Aside f g) (K : Kx) (c : Cal) (what : Int) : pointerS K (asC f g c) what = asC f g (pointerS K c what) := by
  unfold pointerS
  split
  · rw [as_want, as_want, as_want]; rfl
  · rw [as_want, as_want, as_want, as_want]
    refine as_then _ fun c1 => ?_
    show ownS (if ownY c = true then spendS (asC f g c1) c.y else asC f g c1) _ _ = _
    split
    · rw [as_spend ha]; rfl
    · rfl
theorem as_done (ha : Aside f g) (K : Kx) (s : Sta) (what n : Int) : doneS K (asS f g s) what n = asC f g (doneS K s what n) := by
  have hb : begC (asS f g s) n = asC f g (begC s n) := by
    unfold begC asC
    show (⟨asS f g s, at0 (f s.regs) 1, at0 (f s.regs) 2, n, zeroW, 0⟩ : Cal) = _
    rw [ha.f1, ha.f2]
  unfold doneS
  rw [hb]
  split
  · exact as_object ha _ _ _
  split
  · exact as_table ha _ _ _
  split
  · exact as_region ha _ _ _
  split
  · exact as_list ha _ _ _
  split
  · exact as_tree ha _ _ _
  split
  · exact as_pointer ha _ _ _
  · rfl
theorem as_call (ha : Aside f g) (K : Kx) (s : Sta) (what n : Int) : callS K (asS f g s) what n = if (doneS K s what n).err = 0 then (asS f g (endS (doneS K s what n)), 0) else (noS, (doneS K s what n).err) := by
  unfold callS
  rw [as_done ha]
  show (if (doneS K s what n).err = 0 then (endS (asC f g (doneS K s what n)), 0) else _) = _
  split
  · congr 1
    unfold endS asC asS
    simp only [ha.fe]
  · rfl
theorem at0_set {l : List Wht} {j : Nat} {i : Int} (w : Wht) (h : i.toNat ≠ j) : at0 (l.set j w) i = at0 l i := by
  unfold at0
  simp [List.getElem?_set_ne (Ne.symm h)]
theorem map_junk (l : List Wht) (j : Nat) (k i : Int) : (l.map (fgW k i)).set j junk = (l.set j junk).map (fgW k i) := by
  rw [List.map_set]
  congr 1
  unfold fgW
  split <;> rfl
theorem aside_reg (j : Nat) (hj : j < 4) : Aside (fun l => l.set (6 + j) junk) id := ⟨fun l => at0_set _ (by show 1 ≠ 6 + j; omega), fun l => at0_set _ (by show 2 ≠ 6 + j; omega), fun l k i => map_junk _ _ _ _, fun l k i => rfl, fun w l => by
  match j, hj with
  | 0, _ => rw [List.drop_set]; rfl
  | 1, _ => rw [List.drop_set]; rfl
  | 2, _ => rw [List.drop_set]; rfl
  | 3, _ => rw [List.drop_set]; rfl⟩
theorem aside_slot (j : Nat) : Aside id (fun l => l.set j junk) := ⟨fun l => rfl, fun l => rfl, fun l k i => rfl, fun l k i => map_junk _ _ _ _, fun w l => rfl⟩
end Go.Proofs.Ytdbpnkemlmagoaa.Va
