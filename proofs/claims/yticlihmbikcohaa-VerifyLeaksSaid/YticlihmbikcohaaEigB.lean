/- chapter 18: what is forgotten, references -/
import Derived.Test.YticlihmbikcohaaEigA
namespace Go.Proofs.Yticlihmbikcohaa.Va
open Go
set_option linter.unusedVariables false
set_option linter.unusedSimpArgs false
set_option maxRecDepth 100000
/-- what is of a kind, and a number, is junk -/
def fgW (k i : Int) (w : Wht) : Wht := if w.kind = k ∧ (i = 0 ∨ w.id = i) then junk else w
theorem forgetA (d : Nat) {σ : St} {v i1 i2 N : Nat} {A : List Wht} {b2 r x3 x4 x5 : AV} {k i : Int} (hv : v < σ.next) (h1 : i1 < σ.next) (h2 : i2 < σ.next) (n1 : i1 ≠ v) (n2 : i2 ≠ v) (hN : A.length = N) (hN2 : N ≤ 10)
    (ho : σ.obj v = some (.cells 43 [.agg 43 [AV.agg 39 (A.map encW), b2, r, x3, x4, x5]])) (ho1 : σ.obj i1 = some (.cells 3 [.int .i64 k])) (ho2 : σ.obj i2 = some (.cells 3 [.int .i64 i])) :
    Sat (fun p => p.1 = .tup [] ∧ p.2.obj v = some (.cells 43 [.agg 43 [AV.agg 39 ((A.map (fgW k i)).map encW), b2, r, x3, x4, x5]]) ∧ Keeps σ p.2 v) (evalF Try.prog CC (d + 1) 107 [.view 38 v [0, 0] 0 N, .ptr 3 i1 [0], .ptr 3 i2 [0]] σ) := by
  refine Sat.go ?_
  rw [run_107 _ _ _ (by simp)]; unfold Try.f107; simp only [Option.getD_some]
  simp only [go_sem, ↓reduceIte, *]
  refine W.iter_rule (fun j ρ s => ρ 0 = .view 38 v [0, 0] 0 N ∧ ρ 1 = .ptr 3 i1 [0] ∧ ρ 2 = .ptr 3 i2 [0] ∧ ρ 6 = .view 38 v [0, 0] 0 N ∧ ρ 7 = .int .i64 N ∧ ρ 8 = .int .i64 j ∧ s.obj v = some (.cells 43 [.agg 43 [AV.agg 39 (((A.take j).map (fgW k i) ++ A.drop j).map encW), b2, r, x3, x4, x5]]) ∧ s.obj i1 = some (.cells 3 [.int .i64 k]) ∧ s.obj i2 = some (.cells 3 [.int .i64 i]) ∧ Keeps σ s v) N ?_ ?_ _ 0 _ _ (Nat.zero_le _) ?_ ?_
  · clear ho ho1 ho2
    rintro j ρ s hj ⟨h0, hρ1, hρ2, h6, h7, h8, ho, ho1, ho2, hk⟩ K hK hx hr
    have hlt : (j : Int) < (N : Int) := by omega
    have hle : (0 : Int) ≤ (j : Int) := by omega
    have hwrap : IntKind.i64.wrap ((j : Int) + 1) = ((j + 1 : Nat) : Int) := by rw [IntKind.wrap_i64]; omega
    have hjA : j < A.length := by omega
    have hsn : A.take (j + 1) = A.take j ++ [A[j]] := List.take_succ_eq_append_getElem hjA
    have hdn : A.drop j = A[j] :: A.drop (j + 1) := List.drop_eq_getElem_cons hjA
    have hlen : ((A.take j).map (fgW k i)).length = j := by rw [List.length_map, List.length_take]; omega
    rw [hdn] at ho
    clear hdn
    generalize A[j] = w at *
    have hgl : ((((A.take j).map (fgW k i) ++ w :: A.drop (j + 1)).map encW))[j]? = some (encW w) := by
      rw [List.getElem?_map, List.getElem?_append_right (by omega), hlen, Nat.sub_self]
      rfl
    have hst : ∀ u, (((A.take j).map (fgW k i) ++ w :: A.drop (j + 1)).map encW).set j (encW u) = (((A.take j).map (fgW k i) ++ u :: A.drop (j + 1)).map encW) := by
      intro u
      rw [List.map_append, List.map_append, List.set_append_right _ _ (by rw [List.length_map]; omega), List.length_map, hlen, Nat.sub_self]
      rfl
    have hn := hk.1
    have e1 := eq_false (show ¬ v = s.next by omega)
    have e2 := eq_false (show ¬ i1 = s.next by omega)
    have e3 := eq_false (show ¬ i2 = s.next by omega)
    have e4 := eq_false (show ¬ s.next = v by omega)
    have e5 := eq_false n1
    have e6 := eq_false n2
    have hia : aIndexAddr T 112 (.view 38 v [0, 0] 0 N) (.int .i64 (j : Nat)) = some (.ptr 38 v [0, 0, j]) := by
      simp only [aIndexAddr, ty_112]
      rw [if_pos ⟨trivial, hle, by exact_mod_cast hj⟩]
      simp
    simp only [encW] at hgl hst
    have hj0 := hst junk
    simp only [junk] at hj0
    have hfg : ∀ u, fgW k i w = u → (((A.take j).map (fgW k i) ++ u :: A.drop (j + 1)).map encW) = ((A.take (j + 1)).map (fgW k i) ++ A.drop (j + 1)).map encW := by
      rintro u rfl
      rw [hsn]
      simp
    by_cases hkd : w.kind = k
    · have hkd' := eq_true hkd
      by_cases hi0 : i = 0 ∨ w.id = i
      · have hu : fgW k i w = junk := if_pos ⟨hkd, hi0⟩
        have hq := hfg _ hu
        simp only [junk] at hq
        by_cases hi1 : i = 0
        · have hi1' := eq_true hi1
          simp only [go_sem, ↓reduceIte, h0, hρ1, hρ2, h6, h7, h8, hlt, hle, ho, ho1, ho2, e1, e2, e3, e4, e5, e6, hgl, hia, hkd', hi1', hj0, hwrap, Nat.zero_add, Int.toNat_natCast]
          refine hK _ _ ?_
          refine ⟨by (try simp only [go_sem, ↓reduceIte, Int.toNat_natCast, List.length_take, *]) <;> (first | done | rfl | omega | (simp; done) | (simp; omega)), by (try simp only [go_sem, ↓reduceIte, Int.toNat_natCast, List.length_take, *]) <;> (first | done | rfl | omega | (simp; done) | (simp; omega)), by (try simp only [go_sem, ↓reduceIte, Int.toNat_natCast, List.length_take, *]) <;> (first | done | rfl | omega | (simp; done) | (simp; omega)), by (try simp only [go_sem, ↓reduceIte, Int.toNat_natCast, List.length_take, *]) <;> (first | done | rfl | omega | (simp; done) | (simp; omega)), by (try simp only [go_sem, ↓reduceIte, Int.toNat_natCast, List.length_take, *]) <;> (first | done | rfl | omega | (simp; done) | (simp; omega)), by (try simp only [go_sem, ↓reduceIte, Int.toNat_natCast, List.length_take, *]) <;> (first | done | rfl | omega | (simp; done) | (simp; omega)), ?_, by (try simp only [go_sem, ↓reduceIte, Int.toNat_natCast, List.length_take, *]) <;> (first | done | rfl | omega | (simp; done) | (simp; omega)), by (try simp only [go_sem, ↓reduceIte, Int.toNat_natCast, List.length_take, *]) <;> (first | done | rfl | omega | (simp; done) | (simp; omega)), (Keeps.other (hk.new _) _ hn).set _⟩
          simp only [go_sem, ↓reduceIte, hq, e1]
        · have hi1' := eq_false hi1
          have hi2 := eq_true (hi0.resolve_left hi1)
          simp only [go_sem, ↓reduceIte, h0, hρ1, hρ2, h6, h7, h8, hlt, hle, ho, ho1, ho2, e1, e2, e3, e4, e5, e6, hgl, hia, hkd', hi1', hi2, hj0, hwrap, Nat.zero_add, Int.toNat_natCast]
          refine hK _ _ ?_
          refine ⟨by (try simp only [go_sem, ↓reduceIte, Int.toNat_natCast, List.length_take, *]) <;> (first | done | rfl | omega | (simp; done) | (simp; omega)), by (try simp only [go_sem, ↓reduceIte, Int.toNat_natCast, List.length_take, *]) <;> (first | done | rfl | omega | (simp; done) | (simp; omega)), by (try simp only [go_sem, ↓reduceIte, Int.toNat_natCast, List.length_take, *]) <;> (first | done | rfl | omega | (simp; done) | (simp; omega)), by (try simp only [go_sem, ↓reduceIte, Int.toNat_natCast, List.length_take, *]) <;> (first | done | rfl | omega | (simp; done) | (simp; omega)), by (try simp only [go_sem, ↓reduceIte, Int.toNat_natCast, List.length_take, *]) <;> (first | done | rfl | omega | (simp; done) | (simp; omega)), by (try simp only [go_sem, ↓reduceIte, Int.toNat_natCast, List.length_take, *]) <;> (first | done | rfl | omega | (simp; done) | (simp; omega)), ?_, by (try simp only [go_sem, ↓reduceIte, Int.toNat_natCast, List.length_take, *]) <;> (first | done | rfl | omega | (simp; done) | (simp; omega)), by (try simp only [go_sem, ↓reduceIte, Int.toNat_natCast, List.length_take, *]) <;> (first | done | rfl | omega | (simp; done) | (simp; omega)), (Keeps.other (hk.new _) _ hn).set _⟩
          simp only [go_sem, ↓reduceIte, hq, e1]
      · have hu : fgW k i w = w := if_neg (fun h => hi0 h.2)
        have hq := hfg _ hu
        have hi1' := eq_false (fun h => hi0 (.inl h) : ¬ i = 0)
        have hi2 := eq_false (fun h => hi0 (.inr h) : ¬ w.id = i)
        simp only [go_sem, ↓reduceIte, h0, hρ1, hρ2, h6, h7, h8, hlt, hle, ho, ho1, ho2, e1, e2, e3, e4, e5, e6, hgl, hia, hkd', hi1', hi2, hwrap, Nat.zero_add, Int.toNat_natCast]
        refine hK _ _ ?_
        refine ⟨by (try simp only [go_sem, ↓reduceIte, Int.toNat_natCast, List.length_take, *]) <;> (first | done | rfl | omega | (simp; done) | (simp; omega)), by (try simp only [go_sem, ↓reduceIte, Int.toNat_natCast, List.length_take, *]) <;> (first | done | rfl | omega | (simp; done) | (simp; omega)), by (try simp only [go_sem, ↓reduceIte, Int.toNat_natCast, List.length_take, *]) <;> (first | done | rfl | omega | (simp; done) | (simp; omega)), by (try simp only [go_sem, ↓reduceIte, Int.toNat_natCast, List.length_take, *]) <;> (first | done | rfl | omega | (simp; done) | (simp; omega)), by (try simp only [go_sem, ↓reduceIte, Int.toNat_natCast, List.length_take, *]) <;> (first | done | rfl | omega | (simp; done) | (simp; omega)), by (try simp only [go_sem, ↓reduceIte, Int.toNat_natCast, List.length_take, *]) <;> (first | done | rfl | omega | (simp; done) | (simp; omega)), ?_, by (try simp only [go_sem, ↓reduceIte, Int.toNat_natCast, List.length_take, *]) <;> (first | done | rfl | omega | (simp; done) | (simp; omega)), by (try simp only [go_sem, ↓reduceIte, Int.toNat_natCast, List.length_take, *]) <;> (first | done | rfl | omega | (simp; done) | (simp; omega)), Keeps.other (hk.new _) _ hn⟩
        rw [← hq]
        simp only [go_sem, ↓reduceIte, ho, e1]
    · have hu : fgW k i w = w := if_neg (fun h => hkd h.1)
      have hq := hfg _ hu
      have hkd' := eq_false hkd
      simp only [go_sem, ↓reduceIte, h0, hρ1, hρ2, h6, h7, h8, hlt, hle, ho, ho1, ho2, e1, e2, e3, e4, e5, e6, hgl, hia, hkd', hwrap, Nat.zero_add, Int.toNat_natCast]
      refine hK _ _ ?_
      refine ⟨by (try simp only [go_sem, ↓reduceIte, Int.toNat_natCast, List.length_take, *]) <;> (first | done | rfl | omega | (simp; done) | (simp; omega)), by (try simp only [go_sem, ↓reduceIte, Int.toNat_natCast, List.length_take, *]) <;> (first | done | rfl | omega | (simp; done) | (simp; omega)), by (try simp only [go_sem, ↓reduceIte, Int.toNat_natCast, List.length_take, *]) <;> (first | done | rfl | omega | (simp; done) | (simp; omega)), by (try simp only [go_sem, ↓reduceIte, Int.toNat_natCast, List.length_take, *]) <;> (first | done | rfl | omega | (simp; done) | (simp; omega)), by (try simp only [go_sem, ↓reduceIte, Int.toNat_natCast, List.length_take, *]) <;> (first | done | rfl | omega | (simp; done) | (simp; omega)), by (try simp only [go_sem, ↓reduceIte, Int.toNat_natCast, List.length_take, *]) <;> (first | done | rfl | omega | (simp; done) | (simp; omega)), ?_, by (try simp only [go_sem, ↓reduceIte, Int.toNat_natCast, List.length_take, *]) <;> (first | done | rfl | omega | (simp; done) | (simp; omega)), by (try simp only [go_sem, ↓reduceIte, Int.toNat_natCast, List.length_take, *]) <;> (first | done | rfl | omega | (simp; done) | (simp; omega)), Keeps.other (hk.new _) _ hn⟩
      rw [← hq]
      simp only [go_sem, ↓reduceIte, ho, e1]
  · rintro ρ s ⟨h0, hρ1, hρ2, h6, h7, h8, ho, ho1, ho2, hk⟩ K hx hr
    have hlt : ¬ (N : Int) < (N : Int) := by omega
    rw [← hN, List.take_length, List.drop_length, List.append_nil] at ho
    simp only [go_sem, ↓reduceIte, hx, h0, hρ1, hρ2, h6, h7, h8, hlt]
    refine wp_some ⟨rfl, ?_, hk.trim⟩
    show (if v < σ.next then s.obj v else none) = _
    rw [if_pos hv, ho]
  · show N < 0 + 9223372036854775900
    omega
  · exact ⟨by (try simp only [go_sem, ↓reduceIte, Int.toNat_natCast, List.length_take, *]) <;> (first | done | rfl | omega | (simp; done) | (simp; omega)), by (try simp only [go_sem, ↓reduceIte, Int.toNat_natCast, List.length_take, *]) <;> (first | done | rfl | omega | (simp; done) | (simp; omega)), by (try simp only [go_sem, ↓reduceIte, Int.toNat_natCast, List.length_take, *]) <;> (first | done | rfl | omega | (simp; done) | (simp; omega)), by (try simp only [go_sem, ↓reduceIte, Int.toNat_natCast, List.length_take, *]) <;> (first | done | rfl | omega | (simp; done) | (simp; omega)), by (try simp only [go_sem, ↓reduceIte, Int.toNat_natCast, List.length_take, *]) <;> (first | done | rfl | omega | (simp; done) | (simp; omega)), by (try simp only [go_sem, ↓reduceIte, Int.toNat_natCast, List.length_take, *]) <;> (first | done | rfl | omega | (simp; done) | (simp; omega)), by simpa using ho, ho1, ho2, Keeps.refl σ v⟩
theorem forgetB (d : Nat) {σ : St} {v i1 i2 N : Nat} {A : List Wht} {a1 r x3 x4 x5 : AV} {k i : Int} (hv : v < σ.next) (h1 : i1 < σ.next) (h2 : i2 < σ.next) (n1 : i1 ≠ v) (n2 : i2 ≠ v) (hN : A.length = N) (hN2 : N ≤ 10)
    (ho : σ.obj v = some (.cells 43 [.agg 43 [a1, AV.agg 40 (A.map encW), r, x3, x4, x5]])) (ho1 : σ.obj i1 = some (.cells 3 [.int .i64 k])) (ho2 : σ.obj i2 = some (.cells 3 [.int .i64 i])) :
    Sat (fun p => p.1 = .tup [] ∧ p.2.obj v = some (.cells 43 [.agg 43 [a1, AV.agg 40 ((A.map (fgW k i)).map encW), r, x3, x4, x5]]) ∧ Keeps σ p.2 v) (evalF Try.prog CC (d + 1) 107 [.view 38 v [0, 1] 0 N, .ptr 3 i1 [0], .ptr 3 i2 [0]] σ) := by
  refine Sat.go ?_
  rw [run_107 _ _ _ (by simp)]; unfold Try.f107; simp only [Option.getD_some]
  simp only [go_sem, ↓reduceIte, *]
  refine W.iter_rule (fun j ρ s => ρ 0 = .view 38 v [0, 1] 0 N ∧ ρ 1 = .ptr 3 i1 [0] ∧ ρ 2 = .ptr 3 i2 [0] ∧ ρ 6 = .view 38 v [0, 1] 0 N ∧ ρ 7 = .int .i64 N ∧ ρ 8 = .int .i64 j ∧ s.obj v = some (.cells 43 [.agg 43 [a1, AV.agg 40 (((A.take j).map (fgW k i) ++ A.drop j).map encW), r, x3, x4, x5]]) ∧ s.obj i1 = some (.cells 3 [.int .i64 k]) ∧ s.obj i2 = some (.cells 3 [.int .i64 i]) ∧ Keeps σ s v) N ?_ ?_ _ 0 _ _ (Nat.zero_le _) ?_ ?_
  · clear ho ho1 ho2
    rintro j ρ s hj ⟨h0, hρ1, hρ2, h6, h7, h8, ho, ho1, ho2, hk⟩ K hK hx hr
    have hlt : (j : Int) < (N : Int) := by omega
    have hle : (0 : Int) ≤ (j : Int) := by omega
    have hwrap : IntKind.i64.wrap ((j : Int) + 1) = ((j + 1 : Nat) : Int) := by rw [IntKind.wrap_i64]; omega
    have hjA : j < A.length := by omega
    have hsn : A.take (j + 1) = A.take j ++ [A[j]] := List.take_succ_eq_append_getElem hjA
    have hdn : A.drop j = A[j] :: A.drop (j + 1) := List.drop_eq_getElem_cons hjA
    have hlen : ((A.take j).map (fgW k i)).length = j := by rw [List.length_map, List.length_take]; omega
    rw [hdn] at ho
    clear hdn
    generalize A[j] = w at *
    have hgl : ((((A.take j).map (fgW k i) ++ w :: A.drop (j + 1)).map encW))[j]? = some (encW w) := by
      rw [List.getElem?_map, List.getElem?_append_right (by omega), hlen, Nat.sub_self]
      rfl
    have hst : ∀ u, (((A.take j).map (fgW k i) ++ w :: A.drop (j + 1)).map encW).set j (encW u) = (((A.take j).map (fgW k i) ++ u :: A.drop (j + 1)).map encW) := by
      intro u
      rw [List.map_append, List.map_append, List.set_append_right _ _ (by rw [List.length_map]; omega), List.length_map, hlen, Nat.sub_self]
      rfl
    have hn := hk.1
    have e1 := eq_false (show ¬ v = s.next by omega)
    have e2 := eq_false (show ¬ i1 = s.next by omega)
    have e3 := eq_false (show ¬ i2 = s.next by omega)
    have e4 := eq_false (show ¬ s.next = v by omega)
    have e5 := eq_false n1
    have e6 := eq_false n2
    have hia : aIndexAddr T 112 (.view 38 v [0, 1] 0 N) (.int .i64 (j : Nat)) = some (.ptr 38 v [0, 1, j]) := by
      simp only [aIndexAddr, ty_112]
      rw [if_pos ⟨trivial, hle, by exact_mod_cast hj⟩]
      simp
    simp only [encW] at hgl hst
    have hj0 := hst junk
    simp only [junk] at hj0
    have hfg : ∀ u, fgW k i w = u → (((A.take j).map (fgW k i) ++ u :: A.drop (j + 1)).map encW) = ((A.take (j + 1)).map (fgW k i) ++ A.drop (j + 1)).map encW := by
      rintro u rfl
      rw [hsn]
      simp
    by_cases hkd : w.kind = k
    · have hkd' := eq_true hkd
      by_cases hi0 : i = 0 ∨ w.id = i
      · have hu : fgW k i w = junk := if_pos ⟨hkd, hi0⟩
        have hq := hfg _ hu
        simp only [junk] at hq
        by_cases hi1 : i = 0
        · have hi1' := eq_true hi1
          simp only [go_sem, ↓reduceIte, h0, hρ1, hρ2, h6, h7, h8, hlt, hle, ho, ho1, ho2, e1, e2, e3, e4, e5, e6, hgl, hia, hkd', hi1', hj0, hwrap, Nat.zero_add, Int.toNat_natCast]
          refine hK _ _ ?_
          refine ⟨by (try simp only [go_sem, ↓reduceIte, Int.toNat_natCast, List.length_take, *]) <;> (first | done | rfl | omega | (simp; done) | (simp; omega)), by (try simp only [go_sem, ↓reduceIte, Int.toNat_natCast, List.length_take, *]) <;> (first | done | rfl | omega | (simp; done) | (simp; omega)), by (try simp only [go_sem, ↓reduceIte, Int.toNat_natCast, List.length_take, *]) <;> (first | done | rfl | omega | (simp; done) | (simp; omega)), by (try simp only [go_sem, ↓reduceIte, Int.toNat_natCast, List.length_take, *]) <;> (first | done | rfl | omega | (simp; done) | (simp; omega)), by (try simp only [go_sem, ↓reduceIte, Int.toNat_natCast, List.length_take, *]) <;> (first | done | rfl | omega | (simp; done) | (simp; omega)), by (try simp only [go_sem, ↓reduceIte, Int.toNat_natCast, List.length_take, *]) <;> (first | done | rfl | omega | (simp; done) | (simp; omega)), ?_, by (try simp only [go_sem, ↓reduceIte, Int.toNat_natCast, List.length_take, *]) <;> (first | done | rfl | omega | (simp; done) | (simp; omega)), by (try simp only [go_sem, ↓reduceIte, Int.toNat_natCast, List.length_take, *]) <;> (first | done | rfl | omega | (simp; done) | (simp; omega)), (Keeps.other (hk.new _) _ hn).set _⟩
          simp only [go_sem, ↓reduceIte, hq, e1]
        · have hi1' := eq_false hi1
          have hi2 := eq_true (hi0.resolve_left hi1)
          simp only [go_sem, ↓reduceIte, h0, hρ1, hρ2, h6, h7, h8, hlt, hle, ho, ho1, ho2, e1, e2, e3, e4, e5, e6, hgl, hia, hkd', hi1', hi2, hj0, hwrap, Nat.zero_add, Int.toNat_natCast]
          refine hK _ _ ?_
          refine ⟨by (try simp only [go_sem, ↓reduceIte, Int.toNat_natCast, List.length_take, *]) <;> (first | done | rfl | omega | (simp; done) | (simp; omega)), by (try simp only [go_sem, ↓reduceIte, Int.toNat_natCast, List.length_take, *]) <;> (first | done | rfl | omega | (simp; done) | (simp; omega)), by (try simp only [go_sem, ↓reduceIte, Int.toNat_natCast, List.length_take, *]) <;> (first | done | rfl | omega | (simp; done) | (simp; omega)), by (try simp only [go_sem, ↓reduceIte, Int.toNat_natCast, List.length_take, *]) <;> (first | done | rfl | omega | (simp; done) | (simp; omega)), by (try simp only [go_sem, ↓reduceIte, Int.toNat_natCast, List.length_take, *]) <;> (first | done | rfl | omega | (simp; done) | (simp; omega)), by (try simp only [go_sem, ↓reduceIte, Int.toNat_natCast, List.length_take, *]) <;> (first | done | rfl | omega | (simp; done) | (simp; omega)), ?_, by (try simp only [go_sem, ↓reduceIte, Int.toNat_natCast, List.length_take, *]) <;> (first | done | rfl | omega | (simp; done) | (simp; omega)), by (try simp only [go_sem, ↓reduceIte, Int.toNat_natCast, List.length_take, *]) <;> (first | done | rfl | omega | (simp; done) | (simp; omega)), (Keeps.other (hk.new _) _ hn).set _⟩
          simp only [go_sem, ↓reduceIte, hq, e1]
      · have hu : fgW k i w = w := if_neg (fun h => hi0 h.2)
        have hq := hfg _ hu
        have hi1' := eq_false (fun h => hi0 (.inl h) : ¬ i = 0)
        have hi2 := eq_false (fun h => hi0 (.inr h) : ¬ w.id = i)
        simp only [go_sem, ↓reduceIte, h0, hρ1, hρ2, h6, h7, h8, hlt, hle, ho, ho1, ho2, e1, e2, e3, e4, e5, e6, hgl, hia, hkd', hi1', hi2, hwrap, Nat.zero_add, Int.toNat_natCast]
        refine hK _ _ ?_
        refine ⟨by (try simp only [go_sem, ↓reduceIte, Int.toNat_natCast, List.length_take, *]) <;> (first | done | rfl | omega | (simp; done) | (simp; omega)), by (try simp only [go_sem, ↓reduceIte, Int.toNat_natCast, List.length_take, *]) <;> (first | done | rfl | omega | (simp; done) | (simp; omega)), by (try simp only [go_sem, ↓reduceIte, Int.toNat_natCast, List.length_take, *]) <;> (first | done | rfl | omega | (simp; done) | (simp; omega)), by (try simp only [go_sem, ↓reduceIte, Int.toNat_natCast, List.length_take, *]) <;> (first | done | rfl | omega | (simp; done) | (simp; omega)), by (try simp only [go_sem, ↓reduceIte, Int.toNat_natCast, List.length_take, *]) <;> (first | done | rfl | omega | (simp; done) | (simp; omega)), by (try simp only [go_sem, ↓reduceIte, Int.toNat_natCast, List.length_take, *]) <;> (first | done | rfl | omega | (simp; done) | (simp; omega)), ?_, by (try simp only [go_sem, ↓reduceIte, Int.toNat_natCast, List.length_take, *]) <;> (first | done | rfl | omega | (simp; done) | (simp; omega)), by (try simp only [go_sem, ↓reduceIte, Int.toNat_natCast, List.length_take, *]) <;> (first | done | rfl | omega | (simp; done) | (simp; omega)), Keeps.other (hk.new _) _ hn⟩
        rw [← hq]
        simp only [go_sem, ↓reduceIte, ho, e1]
    · have hu : fgW k i w = w := if_neg (fun h => hkd h.1)
      have hq := hfg _ hu
      have hkd' := eq_false hkd
      simp only [go_sem, ↓reduceIte, h0, hρ1, hρ2, h6, h7, h8, hlt, hle, ho, ho1, ho2, e1, e2, e3, e4, e5, e6, hgl, hia, hkd', hwrap, Nat.zero_add, Int.toNat_natCast]
      refine hK _ _ ?_
      refine ⟨by (try simp only [go_sem, ↓reduceIte, Int.toNat_natCast, List.length_take, *]) <;> (first | done | rfl | omega | (simp; done) | (simp; omega)), by (try simp only [go_sem, ↓reduceIte, Int.toNat_natCast, List.length_take, *]) <;> (first | done | rfl | omega | (simp; done) | (simp; omega)), by (try simp only [go_sem, ↓reduceIte, Int.toNat_natCast, List.length_take, *]) <;> (first | done | rfl | omega | (simp; done) | (simp; omega)), by (try simp only [go_sem, ↓reduceIte, Int.toNat_natCast, List.length_take, *]) <;> (first | done | rfl | omega | (simp; done) | (simp; omega)), by (try simp only [go_sem, ↓reduceIte, Int.toNat_natCast, List.length_take, *]) <;> (first | done | rfl | omega | (simp; done) | (simp; omega)), by (try simp only [go_sem, ↓reduceIte, Int.toNat_natCast, List.length_take, *]) <;> (first | done | rfl | omega | (simp; done) | (simp; omega)), ?_, by (try simp only [go_sem, ↓reduceIte, Int.toNat_natCast, List.length_take, *]) <;> (first | done | rfl | omega | (simp; done) | (simp; omega)), by (try simp only [go_sem, ↓reduceIte, Int.toNat_natCast, List.length_take, *]) <;> (first | done | rfl | omega | (simp; done) | (simp; omega)), Keeps.other (hk.new _) _ hn⟩
      rw [← hq]
      simp only [go_sem, ↓reduceIte, ho, e1]
  · rintro ρ s ⟨h0, hρ1, hρ2, h6, h7, h8, ho, ho1, ho2, hk⟩ K hx hr
    have hlt : ¬ (N : Int) < (N : Int) := by omega
    rw [← hN, List.take_length, List.drop_length, List.append_nil] at ho
    simp only [go_sem, ↓reduceIte, hx, h0, hρ1, hρ2, h6, h7, h8, hlt]
    refine wp_some ⟨rfl, ?_, hk.trim⟩
    show (if v < σ.next then s.obj v else none) = _
    rw [if_pos hv, ho]
  · show N < 0 + 9223372036854775900
    omega
  · exact ⟨by (try simp only [go_sem, ↓reduceIte, Int.toNat_natCast, List.length_take, *]) <;> (first | done | rfl | omega | (simp; done) | (simp; omega)), by (try simp only [go_sem, ↓reduceIte, Int.toNat_natCast, List.length_take, *]) <;> (first | done | rfl | omega | (simp; done) | (simp; omega)), by (try simp only [go_sem, ↓reduceIte, Int.toNat_natCast, List.length_take, *]) <;> (first | done | rfl | omega | (simp; done) | (simp; omega)), by (try simp only [go_sem, ↓reduceIte, Int.toNat_natCast, List.length_take, *]) <;> (first | done | rfl | omega | (simp; done) | (simp; omega)), by (try simp only [go_sem, ↓reduceIte, Int.toNat_natCast, List.length_take, *]) <;> (first | done | rfl | omega | (simp; done) | (simp; omega)), by (try simp only [go_sem, ↓reduceIte, Int.toNat_natCast, List.length_take, *]) <;> (first | done | rfl | omega | (simp; done) | (simp; omega)), by simpa using ho, ho1, ho2, Keeps.refl σ v⟩
end Go.Proofs.Yticlihmbikcohaa.Va
