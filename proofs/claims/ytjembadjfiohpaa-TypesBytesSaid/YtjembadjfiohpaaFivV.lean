/- chapter 5: the document's: does a type lead to itself -/
import Derived.Test.YtjembadjfiohpaaFivU
namespace Go.Proofs.Ytjembadjfiohpaa.Va
open Go
set_option linter.unusedVariables false
set_option linter.unusedSimpArgs false
set_option maxRecDepth 100000
/-- v is a row of the elements xs. -/
def Sl (e : TypeId) (xs : List AV) (v : AV) : Prop := (xs = [] ∧ v = .mt true) ∨ ∃ b k, v = .list e b xs k
theorem Gw.sl {e : TypeId} {xs : List AV} {σ : St} {v : AV} {k : Option Nat} (h : Gw e xs σ v k) : Sl e xs v := by
  rcases h with ⟨rfl, rfl, _⟩ | ⟨_, t, _, rfl, _⟩
  · exact .inl ⟨rfl, rfl⟩
  · exact .inr ⟨_, _, rfl⟩
def ptrs (fs : List Fld) : List Int := (fs.filter fun f => decide (f.kind = 2)).map Fld.type
theorem ptrs_mem {fs : List Fld} {y : Int} : y ∈ ptrs fs ↔ ∃ f ∈ fs, f.kind = 2 ∧ f.type = y := by
  simp only [ptrs, List.mem_map, List.mem_filter, decide_eq_true_eq]
  constructor
  · rintro ⟨f, ⟨h1, h2⟩, h3⟩; exact ⟨f, h1, h2, h3⟩
  · rintro ⟨f, h1, h2, h3⟩; exact ⟨f, ⟨h1, h2⟩, h3⟩
def rounds (l : List Typ) : Nat → List Int → List Int
  | 0, s => s
  | n + 1, s => rounds l n (reachedS l s)
theorem addF_sub {out : List Int} {f : Fld} {x : Int} (h : x ∈ out) : x ∈ addF out f := by
  unfold addF; split
  · exact List.mem_append_left _ h
  · exact h
theorem addF_new {out : List Int} {f : Fld} {x : Int} (h : x ∈ addF out f) : x ∈ out ∨ (f.kind = 2 ∧ f.type = x) := by
  unfold addF at h; split at h
  · rename_i hc
    rcases List.mem_append.1 h with h | h
    · exact .inl h
    · simp only [List.mem_singleton] at h; exact .inr ⟨hc.1, h.symm⟩
  · exact .inl h
theorem addF_has {out : List Int} {f : Fld} (h : f.kind = 2) : f.type ∈ addF out f := by
  unfold addF
  by_cases hm : f.type ∈ out
  · rw [if_neg (fun hc => hc.2 hm)]; exact hm
  · rw [if_pos ⟨h, hm⟩]; simp
theorem addFs_sub : ∀ (fs : List Fld) {out : List Int} {x : Int}, x ∈ out → x ∈ fs.foldl addF out
  | [], out, x, h => h
  | f :: fs, out, x, h => addFs_sub fs (addF_sub h)
theorem addFs_mem : ∀ (fs : List Fld) {out : List Int} {x : Int}, x ∈ fs.foldl addF out → x ∈ out ∨ ∃ f ∈ fs, f.kind = 2 ∧ f.type = x
  | [], out, x, h => .inl h
  | f :: fs, out, x, h => by
    rcases addFs_mem fs h with h | ⟨g, h1, h2⟩
    · rcases addF_new h with h | h
      · exact .inl h
      · exact .inr ⟨f, by simp, h⟩
    · exact .inr ⟨g, by simp [h1], h2⟩
theorem addFs_has : ∀ (fs : List Fld) {out : List Int} {f : Fld}, f ∈ fs → f.kind = 2 → f.type ∈ fs.foldl addF out
  | g :: fs, out, f, hf, hk => by
    rcases List.mem_cons.1 hf with rfl | hf
    · exact addFs_sub fs (addF_has hk)
    · exact addFs_has fs hf hk
theorem reach_sub (l : List Typ) : ∀ (s : List Int) {out : List Int} {x : Int}, x ∈ out → x ∈ s.foldl (fun out a => (at0 l a).fields.foldl addF out) out
  | [], out, x, h => h
  | a :: s, out, x, h => reach_sub l s (addFs_sub _ h)
theorem reach_mem (l : List Typ) : ∀ (s : List Int) {out : List Int} {x : Int}, x ∈ s.foldl (fun out a => (at0 l a).fields.foldl addF out) out → x ∈ out ∨ ∃ a ∈ s, Edge l a x
  | [], out, x, h => .inl h
  | a :: s, out, x, h => by
    rcases reach_mem l s h with h | ⟨b, h1, h2⟩
    · rcases addFs_mem _ h with h | h
      · exact .inl h
      · exact .inr ⟨a, by simp, h⟩
    · exact .inr ⟨b, by simp [h1], h2⟩
theorem reach_has (l : List Typ) : ∀ (s : List Int) {out : List Int} {a x : Int}, a ∈ s → Edge l a x → x ∈ s.foldl (fun out a => (at0 l a).fields.foldl addF out) out
  | b :: s, out, a, x, ha, ⟨f, hf, hk, hx⟩ => by
    rcases List.mem_cons.1 ha with rfl | ha
    · subst hx
      exact reach_sub l s (addFs_has _ hf hk)
    · exact reach_has l s ha ⟨f, hf, hk, hx⟩
theorem reachedS_mem {l : List Typ} {s : List Int} {x : Int} : x ∈ reachedS l s ↔ x ∈ s ∨ ∃ a ∈ s, Edge l a x :=
  ⟨reach_mem l s, fun h => h.elim (reach_sub l s) fun ⟨a, h1, h2⟩ => reach_has l s h1 h2⟩
theorem Few.reach {l : List Typ} (hok : ∀ t ∈ l, ∀ f ∈ t.fields, f.kind = 2 → 0 ≤ f.type ∧ f.type < (l.length : Int)) : ∀ (s : List Int) {out : List Int}, (∀ x ∈ s, 0 ≤ x ∧ x < (l.length : Int)) → Few l.length out → Few l.length (s.foldl (fun out a => (at0 l a).fields.foldl addF out) out)
  | [], out, _, h => h
  | a :: s, out, hr, h => Few.reach hok s (fun x hx => hr x (by simp [hx])) (h.adds (hok _ (at0_mem (hr a (by simp)).1 (hr a (by simp)).2)))
theorem Few.reached {l : List Typ} (hok : ∀ t ∈ l, ∀ f ∈ t.fields, f.kind = 2 → 0 ≤ f.type ∧ f.type < (l.length : Int)) {s : List Int} (h : Few l.length s) : Few l.length (reachedS l s) := Few.reach hok s h.rng h
theorem rounds_sub {l : List Typ} : ∀ (n : Nat) {s : List Int} {x : Int}, x ∈ s → x ∈ rounds l n s
  | 0, s, x, h => h
  | n + 1, s, x, h => rounds_sub n (reachedS_mem.2 (.inl h))
theorem Rch.snoc {l : List Typ} {a b c : Int} (h : Rch l a b) (he : Edge l b c) : Rch l a c := by
  induction h with
  | one h1 => exact .more h1 (.one he)
  | more h1 _ ih => exact .more h1 (ih he)
theorem rounds_rch {l : List Typ} {i : Int} : ∀ (n : Nat) {s : List Int}, (∀ x ∈ s, Rch l i x) → ∀ x ∈ rounds l n s, Rch l i x
  | 0, s, h, x, hx => h x hx
  | n + 1, s, h, x, hx => rounds_rch n (fun y hy => by
      rcases reachedS_mem.1 hy with hy | ⟨a, ha, he⟩
      · exact h y hy
      · exact (h a ha).snoc he) x hx
def Closed (l : List Typ) (s : List Int) : Prop := ∀ x ∈ s, ∀ y, Edge l x y → y ∈ s
theorem Closed.reached {l : List Typ} {s : List Int} (h : Closed l s) : Closed l (reachedS l s) := by
  have hm : ∀ x, x ∈ reachedS l s ↔ x ∈ s := fun x => ⟨fun hx => (reachedS_mem.1 hx).elim id fun ⟨a, ha, he⟩ => h a ha x he, fun hx => reachedS_mem.2 (.inl hx)⟩
  intro x hx y hy
  exact (hm y).2 (h x ((hm x).1 hx) y hy)
theorem Closed.rounds {l : List Typ} : ∀ (n : Nat) {s : List Int}, Closed l s → Closed l (rounds l n s)
  | 0, s, h => h
  | n + 1, s, h => Closed.rounds n h.reached
def miss (N : Nat) (s : List Int) : Nat := (List.range N).countP fun x : Nat => decide ((x : Int) ∉ s)
theorem countP_lt {p q : Nat → Bool} : ∀ {L : List Nat}, (∀ x ∈ L, q x = true → p x = true) → (∃ x ∈ L, p x = true ∧ q x = false) → L.countP q < L.countP p
  | [], _, ⟨x, h, _⟩ => by simp at h
  | a :: L, hm, ⟨x, hx, h1, h2⟩ => by
    have hle : L.countP q ≤ L.countP p := List.countP_mono_left (fun y hy => hm y (by simp [hy]))
    rw [List.countP_cons, List.countP_cons]
    rcases List.mem_cons.1 hx with rfl | hx
    · simp [h1, h2]; omega
    · have := countP_lt (L := L) (fun y hy => hm y (by simp [hy])) ⟨x, hx, h1, h2⟩
      by_cases hq : q a = true
      · simp [hq, hm a (by simp) hq]; omega
      · simp [hq]; split <;> omega
theorem miss_lt {N : Nat} {s s' : List Int} (hs : ∀ x ∈ s, x ∈ s') {x : Int} (h0 : 0 ≤ x) (h1 : x < (N : Int)) (hx : x ∉ s) (hx' : x ∈ s') : miss N s' < miss N s := by
  refine countP_lt (fun y _ hy => ?_) ⟨x.toNat, by simp; omega, ?_, ?_⟩
  · simp only [decide_eq_true_eq] at hy ⊢
    exact fun h => hy (hs _ h)
  · simp only [decide_eq_true_eq]; rw [Int.toNat_of_nonneg h0]; exact hx
  · simp only [decide_eq_false_iff_not, Classical.not_not]; rw [Int.toNat_of_nonneg h0]; exact hx'
theorem miss_le (N : Nat) (s : List Int) : miss N s ≤ N := by
  have := List.countP_le_length (p := fun x : Nat => decide ((x : Int) ∉ s)) (l := List.range N)
  simpa [miss] using this
theorem miss_zero {N : Nat} {s : List Int} (h : miss N s = 0) {x : Int} (h0 : 0 ≤ x) (h1 : x < (N : Int)) : x ∈ s := by
  have := List.countP_eq_zero.1 h x.toNat (by simp; omega)
  simp only [decide_eq_true_eq, Classical.not_not] at this
  rwa [Int.toNat_of_nonneg h0] at this
theorem edge_rng {l : List Typ} (hok : ∀ t ∈ l, ∀ f ∈ t.fields, f.kind = 2 → 0 ≤ f.type ∧ f.type < (l.length : Int)) {x y : Int} (h0 : 0 ≤ x) (h1 : x < (l.length : Int)) (he : Edge l x y) : 0 ≤ y ∧ y < (l.length : Int) := by
  obtain ⟨f, hf, hk, rfl⟩ := he
  exact hok _ (at0_mem h0 h1) f hf hk
theorem rounds_closed {l : List Typ} (hok : ∀ t ∈ l, ∀ f ∈ t.fields, f.kind = 2 → 0 ≤ f.type ∧ f.type < (l.length : Int)) : ∀ (n : Nat) {s : List Int}, (∀ x ∈ s, 0 ≤ x ∧ x < (l.length : Int)) → Closed l (rounds l n s) ∨ miss l.length (rounds l n s) + n ≤ miss l.length s
  | 0, s, _ => .inr (Nat.le_refl _)
  | n + 1, s, hr => by
    by_cases hc : Closed l s
    · exact .inl (hc.rounds (n + 1))
    · have hr2 : ∀ x ∈ reachedS l s, 0 ≤ x ∧ x < (l.length : Int) := by
        intro x hx
        rcases reachedS_mem.1 hx with hx | ⟨a, ha, he⟩
        · exact hr x hx
        · exact edge_rng hok (hr a ha).1 (hr a ha).2 he
      rcases rounds_closed hok n hr2 with h | h
      · exact .inl h
      · right
        have : ∃ x, x ∈ s ∧ ∃ y, Edge l x y ∧ y ∉ s := by
          refine Classical.byContradiction fun hn => hc fun x hx y hy => Classical.byContradiction fun hy' => hn ⟨x, hx, y, hy, hy'⟩
        obtain ⟨x, hx, y, hy, hny⟩ := this
        have hyr := edge_rng hok (hr x hx).1 (hr x hx).2 hy
        have := miss_lt (N := l.length) (s := s) (s' := reachedS l s) (fun z hz => reachedS_mem.2 (.inl hz)) hyr.1 hyr.2 hny (reachedS_mem.2 (.inr ⟨x, hx, hy⟩))
        show miss l.length (rounds l n (reachedS l s)) + (n + 1) ≤ _
        omega
theorem itself_iff {l : List Typ} (hok : ∀ t ∈ l, ∀ f ∈ t.fields, f.kind = 2 → 0 ≤ f.type ∧ f.type < (l.length : Int)) {i : Int} (h0 : 0 ≤ i) (h1 : i < (l.length : Int)) : i ∈ rounds l l.length (ptrs (at0 l i).fields) ↔ Rch l i i := by
  have hp : ∀ y, y ∈ ptrs (at0 l i).fields ↔ Edge l i y := fun y => ptrs_mem
  have hr : ∀ x ∈ ptrs (at0 l i).fields, 0 ≤ x ∧ x < (l.length : Int) := fun x hx => edge_rng hok h0 h1 ((hp x).1 hx)
  constructor
  · exact fun h => rounds_rch _ (fun x hx => .one ((hp x).1 hx)) i h
  · intro h
    rcases rounds_closed hok l.length hr with hc | hm
    · exact rch_closed h (fun y hy => rounds_sub _ ((hp y).2 hy)) hc
    · have := miss_le l.length (ptrs (at0 l i).fields)
      exact miss_zero (by omega) h0 h1
end Go.Proofs.Ytjembadjfiohpaa.Va
