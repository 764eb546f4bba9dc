/- chapter 18: the laws' walks, of arguments -/
import Derived.Test.YtdbpnkemlmagoaaEigP
import Derived.Test.YtdbpnkemlmagoaaEigU
namespace Go.Proofs.Ytdbpnkemlmagoaa.Va
open Go
set_option linter.unusedVariables false
theorem arg_K {a b c : AV} (g0 : Arg T 22 a) (g1 : Arg T 23 b) (g2 : Arg T 33 c) : ∃ K s r, a = .list 49 K.bl (K.l.map encTy) none ∧ b = .list 54 K.bm (K.ms.map encM) none ∧ c = encS s r ∧ Args K s r := by
  obtain ⟨bl, l, rfl, hl, _⟩ := arg_typs g0
  obtain ⟨bm, ms, rfl, hm⟩ := arg_maps g1
  obtain ⟨s, r, rfl, h1, h2, h3⟩ := arg_sta g2
  exact ⟨⟨bl, l, bm, ms⟩, s, r, rfl, rfl, rfl, ⟨hl, hm, h1, h2, h3⟩⟩
theorem arg_u8 {a : AV} (h : Arg T 5 a) : ∃ n, a = .int .u8 n ∧ 0 ≤ n ∧ n < 256 := by
  obtain ⟨n, rfl, hw⟩ := arg_int h ty_5
  refine ⟨n, rfl, ?_⟩
  have e1 : IntKind.u8.min = 0 := by kernel_rfl
  have e2 : IntKind.u8.max = 255 := by kernel_rfl
  simp [Lit.wf, e1, e2] at hw
  omega
theorem arg_u32 {a : AV} (h : Arg T 34 a) : ∃ n, a = .int .u32 n ∧ 0 ≤ n ∧ n < 4294967296 := by
  obtain ⟨n, rfl, hw⟩ := arg_int h ty_34
  refine ⟨n, rfl, ?_⟩
  have e1 : IntKind.u32.min = 0 := by kernel_rfl
  have e2 : IntKind.u32.max = 4294967295 := by kernel_rfl
  simp [Lit.wf, e1, e2] at hw
  omega
theorem others_law (d : Nat) (a0 a1 a2 a3 a4 a5 : AV) (g0 : Arg T 22 a0) (g1 : Arg T 23 a1) (g2 : Arg T 33 a2) (g3 : Arg T 5 a3) (g4 : Arg T 34 a4) (g5 : Arg T 5 a5) : ∃ σ', evalF Try.prog CC 80 3 [a0, a1, a2, a3, a4, a5] St.empty = some (.bool true, σ') := by
  obtain ⟨K, s, r, rfl, rfl, rfl, h⟩ := arg_K g0 g1 g2
  obtain ⟨w, rfl, _, _⟩ := arg_u8 g3
  obtain ⟨n, rfl, h1, h2⟩ := arg_u32 g4
  obtain ⟨q, rfl, h3, h4⟩ := arg_u8 g5
  exact law3 K s r h w n h1 h2 q h3 h4
theorem count_law (d : Nat) (a0 a1 a2 a3 a4 : AV) (g0 : Arg T 22 a0) (g1 : Arg T 23 a1) (g2 : Arg T 33 a2) (g3 : Arg T 5 a3) (g4 : Arg T 34 a4) : ∃ σ', evalF Try.prog CC 80 4 [a0, a1, a2, a3, a4] St.empty = some (.bool true, σ') := by
  obtain ⟨K, s, r, rfl, rfl, rfl, h⟩ := arg_K g0 g1 g2
  obtain ⟨w, rfl, h3, h4⟩ := arg_u8 g3
  obtain ⟨n, rfl, h1, h2⟩ := arg_u32 g4
  exact law4 K s r h w n h1 h2 h3 h4
theorem locks_law (d : Nat) (a0 a1 a2 a3 : AV) (g0 : Arg T 22 a0) (g1 : Arg T 23 a1) (g2 : Arg T 33 a2) (g3 : Arg T 34 a3) : ∃ σ', evalF Try.prog CC 80 5 [a0, a1, a2, a3] St.empty = some (.bool true, σ') := by
  obtain ⟨K, s, r, rfl, rfl, rfl, h⟩ := arg_K g0 g1 g2
  obtain ⟨n, rfl, h1, h2⟩ := arg_u32 g3
  exact law5 K s r h n h1 h2
theorem fresh_law (d : Nat) (a0 a1 a2 a3 a4 : AV) (g0 : Arg T 22 a0) (g1 : Arg T 23 a1) (g2 : Arg T 33 a2) (g3 : Arg T 5 a3) (g4 : Arg T 34 a4) : ∃ σ', evalF Try.prog CC 80 6 [a0, a1, a2, a3, a4] St.empty = some (.bool true, σ') := by
  obtain ⟨K, s, r, rfl, rfl, rfl, h⟩ := arg_K g0 g1 g2
  obtain ⟨w, rfl, _, _⟩ := arg_u8 g3
  obtain ⟨n, rfl, h1, h2⟩ := arg_u32 g4
  exact law6 K s r h w n h1 h2
end Go.Proofs.Ytdbpnkemlmagoaa.Va
