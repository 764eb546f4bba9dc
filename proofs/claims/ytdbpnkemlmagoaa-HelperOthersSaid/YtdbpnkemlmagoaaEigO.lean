/- chapter 18: HelperFresh, the law -/
import Derived.Test.YtdbpnkemlmagoaaEigN
namespace Go.Proofs.Ytdbpnkemlmagoaa.Va
open Go
set_option linter.unusedVariables false
set_option linter.unusedSimpArgs false
set_option maxRecDepth 100000
theorem call_tupS {R : Type} {P : Option R → Prop} {X : Option (AV × St)} {σ s : St} {ids : List Nat} {t : TypeId} {us vs : List AV} {k : AV → St → Option R} (hc : X = some (.tup (.agg t us :: vs), s)) (hp : pure1 (.agg t us) = true) (hvs : pureL vs = true) (hids : ids = []) (h : Wp P (k (.tup (.agg t us :: vs)) σ)) :
    Wp P (@bnd2 R X ⟨fun v s => @br R (noMem v) ⟨k v σ⟩ ⟨@br R false ⟨none⟩ ⟨@bnd2 R (retok s (killAll σ ids) v) ⟨k⟩⟩⟩⟩) := by
  subst hc
  subst hids
  have hr : retok s (killAll σ []) (.tup (.agg t us :: vs)) = some (.tup (.agg t us :: vs), σ) := by
    simp only [retok, hvs, if_true, retok1, hp, Option.map_some, killAll]
  show Wp P (@br R (noMem (.tup (.agg t us :: vs))) ⟨k (.tup (.agg t us :: vs)) σ⟩ ⟨@br R false ⟨none⟩ ⟨@bnd2 R (retok s (killAll σ []) (.tup (.agg t us :: vs))) ⟨k⟩⟩⟩)
  rw [hr]
  cases noMem (.tup (.agg t us :: vs))
  · exact h
  · exact h
theorem RefP.strip {r : AV} {xs : List Int} (h : RefP r xs) : Va.strip r = r := by
  rcases h with ⟨_, b, rfl⟩ | ⟨b, rfl, _⟩ <;> simp only [Va.strip]
theorem RefP.views {r : AV} {xs : List Int} (h : RefP r xs) : viewIds r = [] := by
  rcases h with ⟨_, b, rfl⟩ | ⟨b, rfl, _⟩ <;> simp only [viewIds]
theorem encS_pureA {s : Sta} {r : AV} (h : pure1 r = true) : pure1 (encS s r) = true := by
  simp only [encS, pure1, pureL, pure_W, h, Bool.and_self]
/-- What a law's walk is handed. -/
structure Args (K : Kx) (s : Sta) (r : AV) : Prop where
  l : K.l.length ≤ 9223372036854775807
  ms : K.ms.length ≤ 9223372036854775807
  ref : RefP r s.refs
  ok : SOk s
  len : s.refs.length ≤ 17592186044415
theorem callS_ok {K : Kx} {s : Sta} {what n : Int} (he : (callS K s what n).2 = 0) : (doneS K s what n).err = 0 ∧ callS K s what n = (endS (doneS K s what n), 0) := by
  unfold callS at he ⊢
  split
  · rename_i h; exact ⟨h, rfl⟩
  · rename_i h; rw [if_neg h] at he; exact absurd he h
set_option maxHeartbeats 8000000 in
theorem law6 (K : Kx) (s : Sta) (r : AV) (ha : Args K s r) (what n : Int) (hn0 : 0 ≤ n) (hn1 : n < 4294967296) :
    ∃ σ', evalF Try.prog CC 80 6 [.list 49 K.bl (K.l.map encTy) none, .list 54 K.bm (K.ms.map encM) none, encS s r, .int .u8 what, .int .u32 n] St.empty = some (.bool true, σ') := by
  have hsh := shown_c 59
  obtain ⟨fb, hfit⟩ := fits_c 19 K ha.l ha.ms
  obtain ⟨sb, hsP, hsnd⟩ := sound_c 75 s r ha.ref ha.ok (Nat.le_succ_of_le ha.len)
  obtain ⟨r', hr', hp', hcall⟩ := Call_c 70 K s r ha.ref ha.ok ha.len what n hn0 hn1
  have hz := fun σ => ha.ref.fz σ
  have hst := ha.ref.strip
  have hvi := ha.ref.views
  have hcS : ∀ c, callS K s what n = c → callS K s what n = c := fun _ h => h
  simp only [encS] at hsnd hcall
  have hsh : evalF Try.prog CC 79 7 [] St.empty = _ := hsh
  have hfit : evalF Try.prog CC 79 8 _ _ = _ := hfit
  have hsnd : evalF Try.prog CC 79 11 _ _ = _ := hsnd
  have hcall : evalF Try.prog CC 79 9 _ _ = _ := hcall
  refine (show Wp (fun x => ∃ σ', x = some ((AV.bool true, σ') : AV × St)) _ from ?_)
  rw [run_6 _ _ _ (by simp)]; unfold Try.f6; simp only [Option.getD_some]
  cases fb
  · simp only [go_sem, ↓reduceIte, Nat.reduceEqDiff, Nat.reduceAdd, reduceCtorEq, CCT, CCv, CCr, CCk, CCx, List.isEmpty_nil, Nat.reduceBNe, Nat.reduceBEq, Bool.or_false, Bool.false_or, Bool.or_true, Bool.true_or, Nat.reduceLeDiff, Nat.reduceLT, beqI, bneI, List.length_map, decide_true, decide_false, Int.reduceEq, Int.reduceLT, Int.reduceLE, Int.reduceGE, Int.reduceGT, not_true_eq_false, not_false_eq_true, Bool.and_true, Bool.true_and, Bool.and_false, Bool.false_and, and_true, true_and, and_self, Bool.not_not, hsh, hfit]
    exact ⟨_, rfl⟩
  cases sb
  · simp only [go_sem, ↓reduceIte, Nat.reduceEqDiff, Nat.reduceAdd, reduceCtorEq, CCT, CCv, CCr, CCk, CCx, List.isEmpty_nil, Nat.reduceBNe, Nat.reduceBEq, Bool.or_false, Bool.false_or, Bool.or_true, Bool.true_or, Nat.reduceLeDiff, Nat.reduceLT, beqI, bneI, List.length_map, decide_true, decide_false, Int.reduceEq, Int.reduceLT, Int.reduceLE, Int.reduceGE, Int.reduceGT, not_true_eq_false, not_false_eq_true, Bool.and_true, Bool.true_and, Bool.and_false, Bool.false_and, and_true, true_and, and_self, Bool.not_not, hsh, hfit, hsnd, hz, frz_W, strip_W, hst, view_W, hvi, List.append_nil]
    exact ⟨_, rfl⟩
  simp only [go_sem, ↓reduceIte, Nat.reduceEqDiff, Nat.reduceAdd, reduceCtorEq, CCT, CCv, CCr, CCk, CCx, List.isEmpty_nil, Nat.reduceBNe, Nat.reduceBEq, Bool.or_false, Bool.false_or, Bool.or_true, Bool.true_or, Nat.reduceLeDiff, Nat.reduceLT, beqI, bneI, List.length_map, decide_true, decide_false, Int.reduceEq, Int.reduceLT, Int.reduceLE, Int.reduceGE, Int.reduceGT, not_true_eq_false, not_false_eq_true, Bool.and_true, Bool.true_and, Bool.and_false, Bool.false_and, and_true, true_and, and_self, Bool.not_not, hsh, hfit, hsnd, hz, frz_W, strip_W, hst, view_W, hvi, List.append_nil]
  refine call_tupS hcall (by simpa only [encS] using encS_pureA hp') rfl (by first | rfl | simp [view_W, hvi, viewIdsL, viewIds]) ?_
  simp only [go_sem, ↓reduceIte, Nat.reduceEqDiff, Nat.reduceAdd, reduceCtorEq, CCT, CCv, CCr, CCk, CCx, List.isEmpty_nil, Nat.reduceBNe, Nat.reduceBEq, Bool.or_false, Bool.false_or, Bool.or_true, Bool.true_or, Nat.reduceLeDiff, Nat.reduceLT, beqI, bneI, List.length_map, decide_true, decide_false, Int.reduceEq, Int.reduceLT, Int.reduceLE, Int.reduceGE, Int.reduceGT, not_true_eq_false, not_false_eq_true, Bool.and_true, Bool.true_and, Bool.and_false, Bool.false_and, and_true, true_and, and_self, Bool.not_not, *]
  have hi0 := fun id => ix_reg id [0, 0] 0 (by decide)
  simp only [List.cons_append, List.nil_append, Int.ofNat_zero, Int.natCast_zero] at hi0
  by_cases he : (callS K s what n).2 = 0
  case neg =>
    simp only [go_sem, ↓reduceIte, Nat.reduceEqDiff, Nat.reduceAdd, reduceCtorEq, CCT, CCv, CCr, CCk, CCx, List.isEmpty_nil, Nat.reduceBNe, Nat.reduceBEq, Bool.or_false, Bool.false_or, Bool.or_true, Bool.true_or, Nat.reduceLeDiff, Nat.reduceLT, beqI, bneI, List.length_map, decide_true, decide_false, Int.reduceEq, Int.reduceLT, Int.reduceLE, Int.reduceGE, Int.reduceGT, not_true_eq_false, not_false_eq_true, Bool.and_true, Bool.true_and, Bool.and_false, Bool.false_and, and_true, true_and, and_self, Bool.not_not, he]
    exact ⟨_, rfl⟩
  obtain ⟨hd, h1⟩ := callS_ok he
  have hf := fresh_plain hd
  clear hcall hcS hsnd hfit hsh
  generalize doneS K s what n = c at hd h1 hf
  simp only [go_sem, ↓reduceIte, Nat.reduceEqDiff, Nat.reduceAdd, reduceCtorEq, CCT, CCv, CCr, CCk, CCx, List.isEmpty_nil, Nat.reduceBNe, Nat.reduceBEq, Bool.or_false, Bool.false_or, Bool.or_true, Bool.true_or, Nat.reduceLeDiff, Nat.reduceLT, beqI, bneI, List.length_map, decide_true, decide_false, Int.reduceEq, Int.reduceLT, Int.reduceLE, Int.reduceGE, Int.reduceGT, not_true_eq_false, not_false_eq_true, Bool.and_true, Bool.true_and, Bool.and_false, Bool.false_and, and_true, true_and, and_self, Bool.not_not, h1, hi0, endS, List.map_cons, List.getElem?_cons_zero]
  have hw : ∀ b : Bool, b = true → ∀ σ', Wp (fun x => ∃ σ', x = some ((AV.bool true, σ') : AV × St)) (some (AV.bool b, σ')) := fun b h σ' => ⟨σ', by rw [h]⟩
  rcases hf with ⟨hk, hi, hn⟩ | ⟨hk, hn⟩
  · by_cases h3 : c.tells.kind = 3
    · simp only [go_sem, ↓reduceIte, Nat.reduceEqDiff, Nat.reduceAdd, reduceCtorEq, CCT, CCv, CCr, CCk, CCx, List.isEmpty_nil, Nat.reduceBNe, Nat.reduceBEq, Bool.or_false, Bool.false_or, Bool.or_true, Bool.true_or, Nat.reduceLeDiff, Nat.reduceLT, beqI, bneI, List.length_map, decide_true, decide_false, Int.reduceEq, Int.reduceLT, Int.reduceLE, Int.reduceGE, Int.reduceGT, not_true_eq_false, not_false_eq_true, Bool.and_true, Bool.true_and, Bool.and_false, Bool.false_and, and_true, true_and, and_self, Bool.not_not, h3, hi, hn]
      exact ⟨_, rfl⟩
    · have h5 : c.tells.kind = 5 := by omega
      simp only [go_sem, ↓reduceIte, Nat.reduceEqDiff, Nat.reduceAdd, reduceCtorEq, CCT, CCv, CCr, CCk, CCx, List.isEmpty_nil, Nat.reduceBNe, Nat.reduceBEq, Bool.or_false, Bool.false_or, Bool.or_true, Bool.true_or, Nat.reduceLeDiff, Nat.reduceLT, beqI, bneI, List.length_map, decide_true, decide_false, Int.reduceEq, Int.reduceLT, Int.reduceLE, Int.reduceGE, Int.reduceGT, not_true_eq_false, not_false_eq_true, Bool.and_true, Bool.true_and, Bool.and_false, Bool.false_and, and_true, true_and, and_self, Bool.not_not, h5, hi, hn]
      exact ⟨_, rfl⟩
  · have h3 : ¬ c.tells.kind = 3 := fun h => hk (.inl h)
    have h5 : ¬ c.tells.kind = 5 := fun h => hk (.inr h)
    simp only [go_sem, ↓reduceIte, Nat.reduceEqDiff, Nat.reduceAdd, reduceCtorEq, CCT, CCv, CCr, CCk, CCx, List.isEmpty_nil, Nat.reduceBNe, Nat.reduceBEq, Bool.or_false, Bool.false_or, Bool.or_true, Bool.true_or, Nat.reduceLeDiff, Nat.reduceLT, beqI, bneI, List.length_map, decide_true, decide_false, Int.reduceEq, Int.reduceLT, Int.reduceLE, Int.reduceGE, Int.reduceGT, not_true_eq_false, not_false_eq_true, Bool.and_true, Bool.true_and, Bool.and_false, Bool.false_and, and_true, true_and, and_self, Bool.not_not, h3, h5, hn]
    exact ⟨_, rfl⟩
end Go.Proofs.Ytdbpnkemlmagoaa.Va
