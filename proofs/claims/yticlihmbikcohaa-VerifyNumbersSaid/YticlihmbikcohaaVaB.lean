/- arguments that read as data are trees -/
import Derived.OpenShut
import Derived.Test.YticlihmbikcohaaVaE
import Derived.Deep.Slices
import Derived.SizedLaws
namespace Go.Proofs.Yticlihmbikcohaa.Va
open Go Go.RowKit Go.Deep
set_option linter.unusedVariables false
set_option linter.unusedSimpArgs false
inductive Arg (T : Tab) : TypeId → AV → Prop
  | bool (t : TypeId) (b : Bool) (h : T.ty t = some .bool) : Arg T t (.bool b)
  | int (t : TypeId) (k : IntKind) (n : Int) (h : T.ty t = some (.int k)) (hw : (Lit.int k n).wf = true) : Arg T t (.int k n)
  | str (t : TypeId) (s : ByteArray) (h : T.ty t = some .str) (hs : s.size ≤ maxLen) : Arg T t (.str s)
  | slice (t e : TypeId) (b : Bool) (xs : List AV) (h : T.ty t = some (.slice e)) (hx : ∀ x ∈ xs, Arg T e x) (hb : b = true → xs = []) (hl : xs.length ≤ maxLen) (hz : xs.length * T.bytes e ≤ 140737488351232) : Arg T t (.list e b xs none)
  | struct (t : TypeId) (fs : List TypeId) (vs : List AV) (h : T.ty t = some (.struct fs)) (hl : vs.length = fs.length) (hv : ∀ (i : Nat) ft v, fs[i]? = some ft → vs[i]? = some v → Arg T ft v) : Arg T t (.agg t vs)
  | array (t : TypeId) (n : Nat) (e : TypeId) (vs : List AV) (h : T.ty t = some (.array n e)) (hl : vs.length = n) (hv : ∀ v ∈ vs, Arg T e v) : Arg T t (.agg t vs)
def dataT (T : Tab) : Nat → TypeId → Bool
  | 0, _ => false
  | n + 1, t =>
    match T.ty t with
    | some .bool | some (.int _) | some .str => true
    | some (.slice e) => T.size e != 0 && dataT T n e
    | some (.struct fs) => fs.all (dataT T n)
    | some (.array _ e) => dataT T n e
    | _ => false
def cxW (w : World) : Cx := ⟨0, 0, fun _ => 0, fun _ => 0, fun _ => (none, 0, 0, 0), fun b o => w.cell? ⟨b, o, none⟩, fun _ => none⟩
theorem inv_of (T : Tab) (w : World) : Inv T w.heap.size (cxW w) St.empty w :=
  ⟨rfl, rfl, Nat.le_refl _, fun b o v hv => hv, fun id ob ho => (by cases ho), fun i j oi oj hi => (by cases hi), fun t ht => (by cases ht), fun t id ob ht => (by cases ht), fun t t' ht => (by cases ht), fun b o hg => (by cases hg)⟩
section
variable {H : Type} {enc : TypeId × Value → H} {P : Program} {T : Tab} {w : World} {spare : Nat → Bool} {held : Bool}
theorem cellsOf_eq (hT : TabOk P T) {t : TypeId} {d : Ty} (h : T.ty t = some d) : P.cellsOf t = T.size t := by
  obtain ⟨i, z, h1, h2, _⟩ := hT.info t d h
  simp [Program.cellsOf, h1, h2]
theorem cells_at {a : Addr} {n : Nat} {cs : List Value} (h : w.cells? 0 a n = some cs) : cs.length = n ∧ ∀ (j : Nat) v, cs[j]? = some v → w.cell? (a.add j) = some v := by
  unfold World.cells? at h
  rw [if_pos (Nat.zero_le _)] at h
  have hl := mapM_some_length h
  refine ⟨by simpa using hl, fun j v hj => ?_⟩
  have hlt : j < n := by have := (List.getElem?_eq_some_iff.1 hj).1; simp at hl; omega
  have := mapM_some_get h j j (by simp [hlt])
  rw [this]; exact hj
theorem spot_none {a : Addr} {v : Value} (h : w.cell? a = some v) : a.spot = none := by
  unfold World.cell? at h
  split at h
  · split at h
    · cases h
    · rename_i hs; simpa using hs
  · cases h
theorem elems_rep {e : TypeId} {b o sz : Nat} : ∀ (len : Nat), (∀ i, i < len → ∃ v cs, Arg T e v ∧ (∃ d, T.ty e = some d ∧ RepV T (cxW w) d v cs) ∧ cs.length = sz ∧ ∀ (j : Nat) u, cs[j]? = some u → w.cell? ⟨b, o + i * sz + j, none⟩ = some u) →
    ∃ xs cs, xs.length = len ∧ (∀ x ∈ xs, Arg T e x) ∧ RepL T (cxW w) (List.replicate xs.length e) xs cs ∧ cs.length = len * sz ∧ ∀ (j : Nat) u, cs[j]? = some u → w.cell? ⟨b, o + j, none⟩ = some u
  | 0, _ => ⟨[], [], rfl, fun x hx => (by cases hx), .nil _, (by simp), fun j u hj => (by simp at hj)⟩
  | len + 1, h => by
    obtain ⟨xs, cs, h1, h2, h3, h4, h5⟩ := elems_rep len (fun i hi => h i (by omega))
    obtain ⟨v, ds, g1, ⟨d, g2, g3⟩, g4, g5⟩ := h len (Nat.lt_succ_self _)
    refine ⟨xs ++ [v], cs ++ ds, by simp [h1], fun x hx => ?_, rep_app h3 ?_, by rw [List.length_append, h4, g4, Nat.succ_mul], fun j u hj => ?_⟩
    · rcases List.mem_append.1 hx with hx | hx
      · exact h2 x hx
      · obtain rfl := List.mem_singleton.1 hx; exact g1
    · have := RepL.cons (cxW w) e d [] v [] ds [] g2 g3 (.nil _)
      rw [List.append_nil] at this
      exact this
    · by_cases hj' : j < cs.length
      · rw [List.getElem?_append_left hj'] at hj; exact h5 j u hj
      · rw [List.getElem?_append_right (by omega)] at hj
        have := g5 _ u hj
        rw [h4] at this
        rw [show o + j = o + len * sz + (j - len * sz) by omega]
        exact this
theorem weights_all {e : TypeId} : ∀ {ds : List (DataW H)} {d : DataW H}, d ∈ ds → ∀ k ∈ d.weights P e, k ∈ DataW.weightsAll P e ds
  | d0 :: ds, d, hd, k, hk => by
    simp only [DataW.weightsAll, List.mem_append]
    rcases List.mem_cons.1 hd with rfl | hd
    · exact .inl hk
    · exact .inr (weights_all hd k hk)
theorem trod_rep (hT : TabOk P T) : ∀ (n : Nat) {t : TypeId} {cs : List Value} {fuel : Nat} {x : DataW H × List MemPlace}, dataT T n t = true → DataW.trod enc P w 0 spare held fuel t cs = some x → (∀ k ∈ x.1.weights P t, k ≤ 140737488351232) → ∃ v d, Arg T t v ∧ T.ty t = some d ∧ RepV T (cxW w) d v cs
  | 0, t, cs, fuel, x, hd, h, hw => by cases hd
  | n + 1, t, cs, fuel, x, hd, h, hw => by
    unfold dataT at hd
    split at hd
    · rename_i ht
      obtain ⟨D, hu, _, hds⟩ := run_under hT w ht
      obtain rfl := desc_bool hds
      cases fuel with
      | zero => cases h
      | succ m =>
        unfold DataW.trod at h
        rw [hu] at h
        split at h <;> simp_all
        rename_i b
        exact ⟨_, .bool t b ht, .bool _ b⟩
    · rename_i k ht
      obtain ⟨D, hu, _, hds⟩ := run_under hT w ht
      obtain rfl := desc_int hds
      cases fuel with
      | zero => cases h
      | succ m =>
        unfold DataW.trod at h
        rw [hu] at h
        split at h <;> simp_all
        obtain ⟨⟨rfl, hw⟩, _⟩ := h
        exact ⟨_, .int t _ _ ht hw, .int _ _ _⟩
    · rename_i ht
      obtain ⟨D, hu, _, hds⟩ := run_under hT w ht
      obtain rfl := desc_str hds
      cases fuel with
      | zero => cases h
      | succ m =>
        unfold DataW.trod at h
        rw [hu] at h
        split at h <;> simp_all
        exact ⟨_, .str t _ ht h.1, .str _ _⟩
    · rename_i e ht
      simp only [Bool.and_eq_true, bne_iff_ne, ne_eq] at hd
      obtain ⟨D, hu, _, hds⟩ := run_under hT w ht
      obtain rfl := desc_slice hds
      obtain ⟨de, he⟩ := hT.elem t e ht
      have hce := cellsOf_eq hT he
      rcases open_slice (P := P) (w := w) hu h with ⟨rfl, _⟩ | ⟨a, len, cap, m, n', D, Pl, rfl, _, hlc, hcm, hm, hxx, hel⟩
      · exact ⟨.list e true [] none, _, .slice t e true [] ht (fun x hx => by cases hx) (fun _ => rfl) (Nat.zero_le _) (by simp), ht, .list0 _ e true none 0 none (by simp) trivial⟩
      · have hlm : len ≤ m := by rw [hm]; split <;> omega
        have hbe : P.bytesOf e = T.bytes e := by
          obtain ⟨i, z, k1, _, k3, _⟩ := hT.info e de he
          simp [Program.bytesOf, k1, k3]
        rw [hxx] at hw
        simp only [DataW.weights, hu, List.mem_cons, List.mem_append] at hw
        have hw0 := hw _ (.inl rfl)
        rw [List.length_map, List.length_range, hbe] at hw0
        have hwl : len * T.bytes e ≤ 140737488351232 := Nat.le_trans (Nat.mul_le_mul_right _ (Nat.le_add_right _ _)) hw0
        have hwe : ∀ i, i < len → ∀ k ∈ (D i).weights P e, k ≤ 140737488351232 := fun i hi k hk => hw k (.inr (.inl (weights_all (List.mem_map.2 ⟨i, by simpa using hi, rfl⟩) k hk)))
        by_cases h0 : len = 0
        · subst h0
          exact ⟨.list e false [] none, _, .slice t e false [] ht (fun x hx => by cases hx) (fun _ => rfl) (Nat.zero_le _) (by simp), ht, .list0 _ e false (some a) cap none (by simp) trivial⟩
        · have hsp : a.spot = none := by
            obtain ⟨cs', hc, _⟩ := hel 0 (by omega)
            obtain ⟨hl, hg⟩ := cells_at hc
            rw [hce] at hl
            have hlt : 0 < cs'.length := by omega
            have := spot_none (hg 0 _ (List.getElem?_eq_getElem hlt))
            cases hs : a.spot with
            | none => rfl
            | some s => exfalso; simp [Addr.add, hs] at this
          obtain ⟨b, o, rfl⟩ : ∃ b o, a = ⟨b, o, none⟩ := by
            obtain ⟨b, o, s⟩ := a
            simp only at hsp
            subst hsp
            exact ⟨b, o, rfl⟩
          obtain ⟨xs, cs, h1, h2, h3, h4, h5⟩ := elems_rep (T := T) (w := w) (e := e) (b := b) (o := o) (sz := T.size e) len (fun i hi => by
            obtain ⟨cs', hc, htr⟩ := hel i (by omega)
            obtain ⟨hl, hg⟩ := cells_at hc
            obtain ⟨v, d, k1, k2, k3⟩ := trod_rep hT n hd.2 htr (hwe i (by omega))
            refine ⟨v, cs', k1, ⟨d, k2, k3⟩, by rw [hl, hce], fun j u hj => ?_⟩
            have := hg j u hj
            rw [Addr.add_lit, Addr.add_lit, hce] at this
            exact this)
          subst h1
          refine ⟨.list e false xs none, _, .slice t e false xs ht h2 (fun hb => by cases hb) (by omega) hwl, ht, .list _ e xs cs b o cap none h3 (fun j v hj => h5 j v hj) (by rintro rfl; exact h0 rfl) hlc trivial⟩
    · rename_i fs ht
      obtain ⟨D, hu, _, hds⟩ := run_under hT w ht
      obtain ⟨F, rfl, hFs, hF⟩ := desc_struct hds
      obtain ⟨xs, m, _, hxx, hcl, hxl, hfx⟩ := DataW.trod_struct hu h
      rw [hxx] at hw
      simp only [DataW.weights, hu] at hw
      have hcl' : cs.length = T.sum fs := by rw [hcl, cellsOf_eq hT ht, hT.sz t _ ht]; rfl
      have key : ∀ (k i : Nat), i + k = fs.length → ∃ vs, vs.length = k ∧ (∀ (j : Nat) ft v, fs[i + j]? = some ft → vs[j]? = some v → Arg T ft v) ∧ RepL T (cxW w) (fs.drop i) vs (cs.drop (T.sum (fs.take i))) := by
        intro k
        induction k with
        | zero =>
          intro i hi
          refine ⟨[], rfl, fun j ft v _ hv => by simp at hv, ?_⟩
          rw [List.drop_of_length_le (by omega), List.take_of_length_le (by omega), List.drop_of_length_le (by omega)]
          exact .nil _
        | succ k ih =>
          intro i hi
          obtain ⟨vs, g1, g2, g3⟩ := ih (i + 1) (by omega)
          have hlt : i < fs.length := by omega
          obtain ⟨f, k1, k2, k3⟩ := field_of hFs hF (List.getElem?_eq_getElem hlt)
          have hx := hfx i f k1
          rw [List.getElem?_eq_getElem (by omega)] at hx
          have hmem : fs[i] ∈ fs := List.getElem_mem hlt
          have hti : (F.toList.map (·.type))[i]? = some fs[i] := by rw [List.getElem?_map, Array.getElem?_toList, k1]; simp [k2]
          rw [k2, k3] at hx
          obtain ⟨v, d, m1, m2, m3⟩ := trod_rep hT n (List.all_eq_true.1 hd _ hmem) hx (fun k hk => hw k (DataW.weights_mem_each hti (by rw [List.getElem?_map, List.getElem?_eq_getElem (by omega)]; rfl) k hk))
          rw [cellsOf_eq hT m2] at m3
          refine ⟨v :: vs, by simp [g1], fun j ft u hj hv => ?_, ?_⟩
          · cases j with
            | zero =>
              rw [Nat.add_zero, List.getElem?_eq_getElem hlt] at hj
              simp only [List.getElem?_cons_zero, Option.some.injEq] at hj hv
              subst hj hv
              exact m1
            | succ j => exact g2 j ft u (by rw [← hj]; congr 1; omega) (by simpa using hv)
          · have hsum : T.sum (fs.take (i + 1)) = T.sum (fs.take i) + T.size fs[i] := by
              rw [List.take_succ_eq_append_getElem hlt]
              induction fs.take i with
              | nil => simp [Tab.sum]
              | cons a l ih => simp only [List.cons_append, Tab.sum, ih]; omega
            have hsplit : cs.drop (T.sum (fs.take i)) = (cs.drop (T.sum (fs.take i))).take (T.size fs[i]) ++ cs.drop (T.sum (fs.take (i + 1))) := by
              rw [hsum, ← List.drop_drop, List.take_append_drop]
            rw [hsplit, List.drop_eq_getElem_cons hlt]
            exact .cons _ _ d _ v vs _ _ m2 m3 g3
      obtain ⟨vs, g1, g2, g3⟩ := key fs.length 0 (by omega)
      simp only [List.drop_zero, List.take_zero, Tab.sum] at g3
      exact ⟨.agg t vs, _, .struct t fs vs ht g1 (fun i ft v hi hv => g2 i ft v (by simpa using hi) hv), ht, .agg _ t _ fs vs cs ht rfl g3⟩
    · rename_i m0 e ht
      obtain ⟨D, hu, _, hds⟩ := run_under hT w ht
      obtain rfl := desc_array hds
      obtain ⟨xs, m, _, hxx, hcl, hxl, hfx⟩ := DataW.trod_array hu h
      rw [hxx] at hw
      simp only [DataW.weights, hu] at hw
      have hcl' : cs.length = m0 * T.size e := by rw [hcl, cellsOf_eq hT ht, hT.sz t _ ht]; rfl
      obtain ⟨de, hde⟩ : ∃ d, T.ty e = some d := by
        cases n with
        | zero => cases hd
        | succ n =>
          unfold dataT at hd
          cases hh : T.ty e with
          | none => rw [hh] at hd; cases hd
          | some d => exact ⟨d, rfl⟩
      have hce := cellsOf_eq hT hde
      have key : ∀ (k i : Nat), i + k = m0 → ∃ vs, vs.length = k ∧ (∀ v ∈ vs, Arg T e v) ∧ RepL T (cxW w) (List.replicate k e) vs (cs.drop (i * T.size e)) := by
        intro k
        induction k with
        | zero =>
          intro i hi
          refine ⟨[], rfl, (fun v hv => absurd hv (by simp)), ?_⟩
          rw [List.drop_of_length_le (by rw [hcl', ← hi, Nat.add_zero]; exact Nat.le_refl _)]
          exact .nil _
        | succ k ih =>
          intro i hi
          obtain ⟨vs, g1, g2, g3⟩ := ih (i + 1) (by omega)
          have hx := hfx i (by omega)
          rw [List.getElem?_eq_getElem (by omega), hce] at hx
          obtain ⟨v, d, m1, m2, m3⟩ := trod_rep hT n hd hx (fun k hk => hw k (weights_all (List.mem_map.2 ⟨_, List.getElem_mem _, rfl⟩) k hk))
          refine ⟨v :: vs, by simp [g1], fun u hu => ?_, ?_⟩
          · rcases List.mem_cons.1 hu with rfl | hu
            · exact m1
            · exact g2 u hu
          · have hsplit : cs.drop (i * T.size e) = (cs.drop (i * T.size e)).take (T.size e) ++ cs.drop ((i + 1) * T.size e) := by
              rw [Nat.succ_mul, ← List.drop_drop, List.take_append_drop]
            rw [hsplit, List.replicate_succ]
            exact .cons _ _ d _ v vs _ _ m2 m3 g3
      obtain ⟨vs, g1, g2, g3⟩ := key m0 0 (by omega)
      rw [Nat.zero_mul, List.drop_zero] at g3
      exact ⟨.agg t vs, _, .array t m0 e vs ht g1 g2, ht, .agg _ t _ (List.replicate m0 e) vs cs ht rfl g3⟩
    · cases hd
end
end Go.Proofs.Yticlihmbikcohaa.Va
