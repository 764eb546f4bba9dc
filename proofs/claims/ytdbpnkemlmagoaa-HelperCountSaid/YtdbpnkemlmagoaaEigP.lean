/- printed out of the texts of another seat by port.py -/
import Derived.Test.YtdbpnkemlmagoaaEigN
import Derived.Test.YtdbpnkemlmagoaaVaN
namespace Go.Proofs.Ytdbpnkemlmagoaa.Va
open Go
set_option linter.unusedVariables false
set_option linter.unusedSimpArgs false
set_option maxRecDepth 100000
theorem arg_str {t : TypeId} {v : AV} (h : Arg T t v) (ht : T.ty t = some .str) : ∃ s, v = .str s := by
  cases h <;> simp_all
theorem arg_bool {t : TypeId} {v : AV} (h : Arg T t v) (ht : T.ty t = some .bool) : ∃ s, v = .bool s := by
  cases h <;> simp_all
theorem arg_int {t : TypeId} {v : AV} {k : IntKind} (h : Arg T t v) (ht : T.ty t = some (.int k)) : ∃ n, v = .int k n ∧ (Lit.int k n).wf = true := by
  cases h <;> simp_all
theorem arg_slice {t e : TypeId} {v : AV} (h : Arg T t v) (ht : T.ty t = some (.slice e)) : ∃ b xs, v = .list e b xs none ∧ (∀ x ∈ xs, Arg T e x) ∧ (b = true → xs = []) ∧ xs.length ≤ maxLen := by
  cases h with
  | slice _ e' b xs h hx hb hl hz =>
    rw [ht] at h
    cases h
    exact ⟨b, xs, rfl, hx, hb, hl⟩
  | bool _ _ h => rw [ht] at h; cases h
  | int _ _ _ h => rw [ht] at h; cases h
  | str _ _ h => rw [ht] at h; cases h
  | struct _ _ _ h => rw [ht] at h; cases h
  | array _ _ _ _ h => rw [ht] at h; cases h
theorem arg_sized {t e : TypeId} {b : Bool} {xs : List AV} {tok : Option Nat} (h : Arg T t (.list e b xs tok)) : xs.length * T.bytes e ≤ 140737488351232 := by
  cases h with
  | slice _ e' b xs h hx hb hl hz => exact hz
theorem arg_struct {t : TypeId} {fs : List TypeId} {v : AV} (h : Arg T t v) (ht : T.ty t = some (.struct fs)) : ∃ vs, v = .agg t vs ∧ vs.length = fs.length ∧ ∀ (i : Nat) ft v, fs[i]? = some ft → vs[i]? = some v → Arg T ft v := by
  cases h with
  | struct _ fs' vs h hl hv =>
    rw [ht] at h
    cases h
    exact ⟨vs, rfl, hl, hv⟩
  | bool _ _ h => rw [ht] at h; cases h
  | int _ _ _ h => rw [ht] at h; cases h
  | str _ _ h => rw [ht] at h; cases h
  | slice _ _ _ _ h => rw [ht] at h; cases h
  | array _ _ _ _ h => rw [ht] at h; cases h
theorem arg_fld {v : AV} (h : Arg T 46 v) : ∃ f, v = encF f := by
  obtain ⟨vs, rfl, hl, hv⟩ := arg_struct h ty_46
  match vs, hl with
  | [a, b, c, d, e], _ =>
    obtain ⟨k, rfl, _⟩ := arg_int (hv 0 _ _ rfl rfl) ty_3
    obtain ⟨l, rfl, _⟩ := arg_int (hv 1 _ _ rfl rfl) ty_3
    obtain ⟨t, rfl, _⟩ := arg_int (hv 2 _ _ rfl rfl) ty_3
    obtain ⟨m, rfl, _⟩ := arg_int (hv 3 _ _ rfl rfl) ty_3
    obtain ⟨n, rfl, _⟩ := arg_int (hv 4 _ _ rfl rfl) ty_3
    exact ⟨⟨k, l, t, m, n⟩, rfl⟩
theorem map_of {p : AV → Prop} {α : Type} {g : α → AV} : ∀ {xs : List AV}, (∀ x ∈ xs, ∃ a, x = g a) → ∃ l : List α, xs = l.map g
  | [], _ => ⟨[], rfl⟩
  | x :: xs, h => by
    obtain ⟨a, rfl⟩ := h x (by simp)
    obtain ⟨l, rfl⟩ := map_of (p := p) (g := g) (xs := xs) (fun y hy => h y (by simp [hy]))
    exact ⟨a :: l, rfl⟩
theorem arg_typs {v : AV} (h : Arg T 22 v) : ∃ b l, v = encTs b l ∧ l.length ≤ 9223372036854775807 ∧ (∀ t ∈ l, t.name.size ≤ 9223372036854775807) ∧ (∀ t ∈ l, t.fields.length ≤ maxLen) ∧ (b = true → l = []) ∧ ∀ t ∈ l, t.nil = true → t.fields = [] := by
  have hmx : maxLen ≤ 9223372036854775807 := by decide
  obtain ⟨b, xs, rfl, hx, hb, hl⟩ := arg_slice h ty_22
  have hx2 : ∀ x ∈ xs, ∃ t : Typ, x = encTy t ∧ t.name.size ≤ 9223372036854775807 ∧ t.fields.length ≤ maxLen ∧ (t.nil = true → t.fields = []) := by
    intro x hxm
    obtain ⟨vs, rfl, hl, hv⟩ := arg_struct (hx x hxm) ty_49
    match vs, hl with
    | [a, b, c, d], _ =>
      have ha := hv 0 _ _ rfl rfl
      obtain ⟨x, rfl⟩ := arg_bool (hv 1 _ _ rfl rfl) ty_4
      obtain ⟨y, rfl⟩ := arg_bool (hv 2 _ _ rfl rfl) ty_4
      obtain ⟨z, xs, rfl, hx, hz, hlen⟩ := arg_slice (hv 3 _ _ rfl rfl) ty_47
      obtain ⟨fs, rfl⟩ := map_of (p := fun _ => True) (g := encF) (fun x hx' => arg_fld (hx x hx'))
      obtain ⟨s, rfl⟩ := arg_str ha ty_9
      have hs : s.size ≤ maxLen := by cases ha; assumption
      exact ⟨⟨s, x, y, z, fs⟩, rfl, Nat.le_trans hs hmx, by simpa using hlen, fun h => by simpa using hz h⟩
  clear hx
  have : ∃ l : List Typ, xs = l.map encTy ∧ ∀ t ∈ l, t.name.size ≤ 9223372036854775807 ∧ t.fields.length ≤ maxLen ∧ (t.nil = true → t.fields = []) := by
    clear hb hl h
    induction xs with
    | nil => exact ⟨[], rfl, by simp⟩
    | cons x xs ih =>
      obtain ⟨t, rfl, h1⟩ := hx2 x (by simp)
      obtain ⟨l, rfl, h2⟩ := ih (fun y hy => hx2 y (by simp [hy]))
      exact ⟨t :: l, rfl, fun u hu => by
        rcases List.mem_cons.1 hu with rfl | hu
        · exact h1
        · exact h2 u hu⟩
  obtain ⟨l, rfl, h2⟩ := this
  exact ⟨b, l, rfl, Nat.le_trans (by simpa using hl) hmx, fun t ht => (h2 t ht).1, fun t ht => (h2 t ht).2.1, fun h => by simpa using hb h, fun t ht => (h2 t ht).2.2⟩
theorem arg_array {t e : TypeId} {n : Nat} {v : AV} (h : Arg T t v) (ht : T.ty t = some (.array n e)) : ∃ vs, v = .agg t vs ∧ vs.length = n ∧ ∀ v ∈ vs, Arg T e v := by
  cases h with
  | array _ n' e' vs h hl hv =>
    rw [ht] at h
    cases h
    exact ⟨vs, rfl, hl, hv⟩
  | bool _ _ h => rw [ht] at h; cases h
  | int _ _ _ h => rw [ht] at h; cases h
  | str _ _ h => rw [ht] at h; cases h
  | slice _ _ _ _ h => rw [ht] at h; cases h
  | struct _ _ _ h => rw [ht] at h; cases h
theorem arg_W {v : AV} (h : Arg T 28 v) : ∃ w, v = encW w := by
  obtain ⟨vs, rfl, hl, hv⟩ := arg_struct h ty_28
  match vs, hl with
  | [a, b, c, d, e, f], _ =>
    obtain ⟨k, rfl, _⟩ := arg_int (hv 0 _ _ rfl rfl) ty_3
    obtain ⟨t, rfl, _⟩ := arg_int (hv 1 _ _ rfl rfl) ty_3
    obtain ⟨i, rfl, _⟩ := arg_int (hv 2 _ _ rfl rfl) ty_3
    obtain ⟨l, rfl, _⟩ := arg_int (hv 3 _ _ rfl rfl) ty_3
    obtain ⟨m, rfl⟩ := arg_bool (hv 4 _ _ rfl rfl) ty_4
    obtain ⟨us, rfl, hl2, hv2⟩ := arg_struct (hv 5 _ _ rfl rfl) ty_26
    match us, hl2 with
    | [x, y], _ =>
      obtain ⟨p, rfl, _⟩ := arg_int (hv2 0 _ _ rfl rfl) ty_24
      obtain ⟨q, rfl, _⟩ := arg_int (hv2 1 _ _ rfl rfl) ty_24
      exact ⟨⟨k, t, i, l, m, p, q⟩, rfl⟩
theorem arg_sta {v : AV} (h : Arg T 33 v) : ∃ s r, v = encS s r ∧ RefP r s.refs ∧ SOk s ∧ s.refs.length ≤ 17592186044415 := by
  obtain ⟨vs, rfl, hl, hv⟩ := arg_struct h ty_33
  match vs, hl with
  | [a, b, c, d, e, f], _ =>
    obtain ⟨az, rfl, ha, hwa⟩ := arg_array (hv 0 _ _ rfl rfl) ty_29
    obtain ⟨bz, rfl, hb, hwb⟩ := arg_array (hv 1 _ _ rfl rfl) ty_30
    have hv2 := hv 2 _ _ rfl rfl
    obtain ⟨nb, cz, rfl, hc, hnc, hcl⟩ := arg_slice hv2 ty_31
    have hz := arg_sized hv2
    have h3 : T.bytes 3 = 8 := by kernel_rfl
    rw [h3] at hz
    obtain ⟨l, rfl, _⟩ := arg_int (hv 3 _ _ rfl rfl) ty_3
    obtain ⟨x, rfl⟩ := arg_bool (hv 4 _ _ rfl rfl) ty_4
    obtain ⟨n, rfl, _⟩ := arg_int (hv 5 _ _ rfl rfl) ty_3
    obtain ⟨ra, rfl⟩ := map_of (p := fun _ => True) (g := encW) (fun x hx' => arg_W (hwa x hx'))
    obtain ⟨rb, rfl⟩ := map_of (p := fun _ => True) (g := encW) (fun x hx' => arg_W (hwb x hx'))
    obtain ⟨rc, rfl⟩ := map_of (p := fun _ => True) (g := fun n : Int => AV.int .i64 n) (fun x hx' => by obtain ⟨k, h, _⟩ := arg_int (hc x hx') ty_3; exact ⟨k, h⟩)
    exact ⟨⟨ra, rb, rc, l, x, n⟩, _, rfl, .inr ⟨nb, rfl, fun h => by simpa using hnc h⟩, ⟨by simpa using ha, by simpa using hb⟩, by
      simp only [List.length_map] at hz
      show rc.length ≤ _
      omega⟩
theorem arg_maps {v : AV} (h : Arg T 23 v) : ∃ b, ∃ l : List Mp, v = .list 54 b (l.map encM) none ∧ l.length ≤ 9223372036854775807 := by
  have hmx : maxLen ≤ 9223372036854775807 := by decide
  obtain ⟨b, xs, rfl, hx, hb, hl⟩ := arg_slice h ty_23
  obtain ⟨ms, rfl⟩ := map_of (p := fun _ => True) (g := encM) (fun x hx' => by
    obtain ⟨vs, rfl, hl, hv⟩ := arg_struct (hx x hx') ty_54
    match vs, hl with
    | [a, b, c], _ =>
      obtain ⟨m, rfl⟩ := arg_bool (hv 0 _ _ rfl rfl) ty_4
      obtain ⟨k, rfl, _⟩ := arg_int (hv 1 _ _ rfl rfl) ty_3
      obtain ⟨t, rfl, _⟩ := arg_int (hv 2 _ _ rfl rfl) ty_3
      exact ⟨⟨m, k, t⟩, rfl⟩)
  exact ⟨b, ms, rfl, Nat.le_trans (by simpa using hl) hmx⟩
end Go.Proofs.Ytdbpnkemlmagoaa.Va
