/- chapter 5: TypesLayouts, of whatever reads as a type -/
import Derived.Test.YtjembadjfiohpaaFivD
import Derived.Test.YtjembadjfiohpaaVaN
namespace Go.Proofs.Ytjembadjfiohpaa.Va
open Go
set_option linter.unusedVariables false
set_option linter.unusedSimpArgs false
theorem arg_str {t : TypeId} {v : AV} (h : Arg T t v) (ht : T.ty t = some .str) : ∃ s, v = .str s := by
  cases h <;> simp_all
theorem arg_bool {t : TypeId} {v : AV} (h : Arg T t v) (ht : T.ty t = some .bool) : ∃ s, v = .bool s := by
  cases h <;> simp_all
theorem arg_int {t : TypeId} {v : AV} {k : IntKind} (h : Arg T t v) (ht : T.ty t = some (.int k)) : ∃ n, v = .int k n ∧ (Lit.int k n).wf = true := by
  cases h <;> simp_all
theorem arg_slice {t e : TypeId} {v : AV} (h : Arg T t v) (ht : T.ty t = some (.slice e)) : ∃ b xs, v = .list e b xs none ∧ (∀ x ∈ xs, Arg T e x) ∧ (b = true → xs = []) ∧ xs.length ≤ maxLen := by
  cases h with
  | slice _ e' b xs h hx hb hl =>
    rw [ht] at h
    cases h
    exact ⟨b, xs, rfl, hx, hb, hl⟩
  | bool _ _ h => rw [ht] at h; cases h
  | int _ _ _ h => rw [ht] at h; cases h
  | str _ _ h => rw [ht] at h; cases h
  | struct _ _ _ h => rw [ht] at h; cases h
theorem arg_struct {t : TypeId} {fs : List TypeId} {v : AV} (h : Arg T t v) (ht : T.ty t = some (.struct fs)) : ∃ vs, v = .agg t vs ∧ vs.length = fs.length ∧ ∀ (i : Nat) ft v, fs[i]? = some ft → vs[i]? = some v → Arg T ft v := by
  cases h with
  | struct _ fs' vs h hl hv =>
    rw [ht] at h
    cases h
    exact ⟨vs, rfl, hl, hv⟩
  | bool _ _ h => rw [ht] at h; cases h
  | int _ _ _ h => rw [ht] at h; cases h
  | str _ _ h => rw [ht] at h; cases h
  | slice _ _ _ _ h => rw [ht] at h; cases h
theorem arg_fld {v : AV} (h : Arg T 41 v) : ∃ f, v = encF f := by
  obtain ⟨vs, rfl, hl, hv⟩ := arg_struct h ty_41
  match vs, hl with
  | [a, b, c, d, e], _ =>
    obtain ⟨k, rfl, _⟩ := arg_int (hv 0 _ _ rfl rfl) ty_3
    obtain ⟨l, rfl, _⟩ := arg_int (hv 1 _ _ rfl rfl) ty_3
    obtain ⟨t, rfl, _⟩ := arg_int (hv 2 _ _ rfl rfl) ty_3
    obtain ⟨m, rfl, _⟩ := arg_int (hv 3 _ _ rfl rfl) ty_3
    obtain ⟨n, rfl, _⟩ := arg_int (hv 4 _ _ rfl rfl) ty_3
    exact ⟨⟨k, l, t, m, n⟩, rfl⟩
theorem map_of {p : AV → Prop} {α : Type} {g : α → AV} : ∀ {xs : List AV}, (∀ x ∈ xs, ∃ a, x = g a) → ∃ l : List α, xs = l.map g
  | [], _ => ⟨[], rfl⟩
  | x :: xs, h => by
    obtain ⟨a, rfl⟩ := h x (by simp)
    obtain ⟨l, rfl⟩ := map_of (p := p) (g := g) (xs := xs) (fun y hy => h y (by simp [hy]))
    exact ⟨a :: l, rfl⟩
theorem arg_typ {v : AV} (h : Arg T 32 v) : ∃ name u r b fs, v = encT name u r b fs ∧ fs.length ≤ maxLen ∧ (b = true → fs = []) := by
  obtain ⟨vs, rfl, hl, hv⟩ := arg_struct h ty_32
  match vs, hl with
  | [a, b, c, d], _ =>
    obtain ⟨s, rfl⟩ := arg_str (hv 0 _ _ rfl rfl) ty_9
    obtain ⟨x, rfl⟩ := arg_bool (hv 1 _ _ rfl rfl) ty_4
    obtain ⟨y, rfl⟩ := arg_bool (hv 2 _ _ rfl rfl) ty_4
    obtain ⟨z, xs, rfl, hx, hz, hlen⟩ := arg_slice (hv 3 _ _ rfl rfl) ty_30
    obtain ⟨fs, rfl⟩ := map_of (p := fun _ => True) (g := encF) (fun x hx' => arg_fld (hx x hx'))
    exact ⟨s, x, y, z, fs, rfl, by simpa using hlen, fun h => by simpa using hz h⟩
theorem layouts_law (d : Nat) (a : AV) (h : Arg T 32 a) : ∃ σ', evalF Try.prog CC (d + 50) 4 [a] St.empty = some (.bool true, σ') := by
  obtain ⟨name, u, r, b, fs, rfl, _, _⟩ := arg_typ h
  exact ⟨_, law4 d name u r b fs⟩
end Go.Proofs.Ytjembadjfiohpaa.Va
