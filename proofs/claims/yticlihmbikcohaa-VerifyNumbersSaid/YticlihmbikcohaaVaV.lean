/- the machine's operations that make rows, against the interpreter's -/
import Derived.Test.YticlihmbikcohaaVaH
import Derived.Laws.MakeOwn
namespace Go.Proofs.Yticlihmbikcohaa.Va
open Go Go.RowKit
set_option linter.unusedVariables false
set_option linter.unusedSimpArgs false

/-- What is known when a row is laid that nobody appends to in place. -/
def Cx.rowOnly (c : Cx) (b n : Nat) (cs : List Value) : Cx := { c with F := fun g o => if g = b ∧ o < n then cs[o]? else c.F g o }
section
variable {P : Program} {T : Tab} {base : Nat} {c : Cx} {σ : St} {w : World}
theorem Inv.F_new (h : Inv T base c σ w) (o : Nat) : c.F w.heap.size o = none := by
  cases hf : c.F w.heap.size o with
  | none => rfl
  | some v => exact absurd (lt_of_cell (h.F _ _ _ hf)) (Nat.lt_irrefl _)
theorem Inv.rowOnly (h : Inv T base c σ w) {n : Nat} {cs : List Value} {e : TypeId} {cur : Array Value} (hcs : ∀ o, o < n → cur[o]? = cs[o]?) :
    Inv T base (c.rowOnly w.heap.size n cs) σ (w.alloc (.cells cur e)) ∧ Fwd base c (c.rowOnly w.heap.size n cs) w (w.alloc (.cells cur e)) := by
  have hold : ∀ {b}, b < w.heap.size → (w.alloc (.cells cur e)).heap[b]? = w.heap[b]? := fun hb => heap_alloc_old w _ hb
  have hFo : ∀ g o, g ≠ w.heap.size → (c.rowOnly w.heap.size n cs).F g o = c.F g o := fun g o hg => if_neg (by rintro ⟨e, _⟩; exact hg e)
  have hx : Ext c (c.rowOnly w.heap.size n cs) := ⟨Nat.le_refl _, Nat.le_refl _, fun _ _ => rfl, fun _ _ => rfl, fun _ _ => rfl, fun b o v hv => by
    have : b ≠ w.heap.size := fun e => by subst e; rw [h.F_new o] at hv; cases hv
    rw [hFo b o this]; exact hv⟩
  refine ⟨⟨h.next, h.ntok, ?_, ?_, ?_, h.inj, ?_, h.tokObj, h.tokTok, fun b o hg => let q := h.G b o hg; ⟨by rw [hold (lt_of_some q.heap)]; exact q.heap, fun o' => (hFo b o' (fun e => by have := lt_of_some q.heap; omega)).trans (q.F o'), q.obj, q.tok⟩⟩, hx, (Below.refl _ _).alloc h.le _, fun b hb o => hFo b o (by have := h.le; omega), fun _ _ => rfl⟩
  · have := h.le; show base ≤ (w.heap.push _).size; simp; omega
  · intro b o v hv
    simp only [Cx.rowOnly] at hv
    by_cases hc : b = w.heap.size ∧ o < n
    · rw [if_pos hc] at hv
      obtain ⟨rfl, ho⟩ := hc
      have := hcs o ho
      simp only [World.cell?, heap_alloc_new, Option.isSome_none, Bool.false_eq_true, if_false]
      rw [this]; exact hv
    · rw [if_neg hc] at hv
      rw [cell_same (hold (lt_of_cell (h.F b o v hv)))]
      exact h.F b o v hv
  · intro id ob hob
    obtain ⟨h1, h2, h3, h4⟩ := h.obj id ob hob
    exact ⟨h1, h2, fun o => (hFo _ _ (by have := h4.lt; exact Nat.ne_of_lt this)).trans (h3 o), by rw [show (c.rowOnly w.heap.size n cs).μ id = c.μ id from rfl, hold h4.lt]; exact h4.ext hx (by rw [h.next]; exact h1)⟩
  · intro t ht
    obtain ⟨g1, g2⟩ := h.tok t ht
    exact ⟨g1, g2.keep (c' := c.rowOnly w.heap.size n cs) (fun g hg => hold (g2.lt hg).1) (fun g hg o => hFo g o (Nat.ne_of_lt (g2.lt hg).1))⟩
theorem made_get (z : Array Value) (n i : Nat) : (madeCells z n).toList[i]? = if i < n then some z[i % z.size]! else none := by
  simp only [madeCells, Array.toList_map, List.getElem?_map, Array.toList_range]
  by_cases h : i < n
  · rw [if_pos h, List.getElem?_range h]; rfl
  · rw [if_neg h, List.getElem?_eq_none (by simp; omega)]; rfl
theorem made_flat (z : Array Value) (h : 0 < z.size) : ∀ n, (madeCells z (n * z.size)).toList = (List.replicate n z.toList).flatten
  | 0 => by simp [madeCells]
  | n + 1 => by
    rw [List.replicate_succ', List.flatten_concat, ← made_flat z h n]
    apply List.ext_getElem?
    intro i
    have hl : (madeCells z (n * z.size)).toList.length = n * z.size := by simp [madeCells]
    rw [made_get, List.getElem?_append, hl, Nat.succ_mul]
    by_cases h1 : i < n * z.size
    · rw [if_pos (by omega), if_pos h1, made_get, if_pos h1]
    · rw [if_neg h1]
      by_cases h2 : i < n * z.size + z.size
      · rw [if_pos h2]
        have hm : i % z.size = i - n * z.size := by
          have : i = (i - n * z.size) + n * z.size := by omega
          conv => lhs; rw [this]
          rw [Nat.add_mul_mod_self_right, Nat.mod_eq_of_lt (by omega)]
        rw [hm, List.getElem?_eq_getElem (by simp; omega)]
        simp [getElem!_pos, show i - n * z.size < z.size by omega]
      · rw [if_neg h2, List.getElem?_eq_none (by simp; omega)]
theorem flat_rep {e : TypeId} {d : Ty} {v : AV} {cs : List Value} (he : T.ty e = some d) (h : RepV T c d v cs) : ∀ n, RepL T c (List.replicate n e) (List.replicate n v) (List.replicate n cs).flatten
  | 0 => .nil _
  | n + 1 => .cons _ e d _ v _ cs _ he h (flat_rep he h n)
theorem made_rep (hT : TabOk P T) {e : TypeId} {d : Ty} (he : T.ty e = some d) (n : Nat) : ∃ i z, P.info? e = some i ∧ i.size = T.size e ∧ i.bytes = T.bytes e ∧ T.bytes e ≤ 1000000 ∧ i.zero = some z ∧ RepL T c (List.replicate n e) (List.replicate n (T.zero e)) (madeCells z.cells (n * T.size e)).toList := by
  obtain ⟨i, z, h1, h2, h3, h4, h5, h6, h7⟩ := hT.info e d he
  have hl := (h6 c).len hT.sz
  rw [← hT.sz e d he] at hl
  have hz : z.cells.size = T.size e := by simpa using hl
  refine ⟨i, z, h1, h2, h3, h4, h5, ?_⟩
  have hf := flat_rep he (h6 c) n
  by_cases h0 : 0 < T.size e
  · rw [← hz, made_flat _ (by omega)]; exact hf
  · have e0 : T.size e = 0 := by omega
    rw [e0] at hl
    rw [List.eq_nil_of_length_eq_zero hl] at hf
    rw [e0, Nat.mul_zero]
    simpa [madeCells] using hf
/-- A row of n elements, as a list. -/
theorem sd_row_list (hT : TabOk P T) (hI : Inv T base c σ w) {e : TypeId} {xs : List AV} {cs : List Value} (hr : RepL T c (List.replicate xs.length e) xs cs) (hp : pureL xs = true) :
    ∃ c', Fwd base c c' w (w.alloc (.cells cs.toArray e)) ∧ Inv T base c' σ (w.alloc (.cells cs.toArray e)) ∧ RepT T c' (.list e false xs (some 0)) (.slice (some ⟨w.heap.size, 0, none⟩) xs.length xs.length) := by
  obtain ⟨h1, h2⟩ := hI.rowOnly (n := cs.length) (cs := cs) (e := e) (cur := cs.toArray) (fun o ho => by simp)
  refine ⟨_, h2, h1, Rep1.toT (RepV.row ((hr.close hp).ext h2.ext.closed) (fun j v hj => ?_) (Nat.le_refl _) rfl)⟩
  exact (if_pos ⟨rfl, (List.getElem?_eq_some_iff.1 hj).1⟩).trans hj
/-- A row of n elements that is written. -/
theorem sd_row_view (hT : TabOk P T) (hI : Inv T base c σ w) {e : TypeId} {d : Ty} (he : T.ty e = some d) {xs : List AV} {cs tail : List Value} {cap : Nat} (hr : RepL T c (List.replicate xs.length e) xs cs) (hcap : xs.length ≤ cap) :
    ∃ c', Fwd base c c' w (w.alloc (.cells (cs ++ tail).toArray e)) ∧ Inv T base c' (σ.new (.cells e xs)) (w.alloc (.cells (cs ++ tail).toArray e)) ∧ RepT T c' (.view e σ.next [] 0 xs.length) (.slice (some ⟨w.heap.size, 0, none⟩) xs.length cap) := by
  have hx := Ext.newObj c e w.heap.size
  refine ⟨c.newObj e w.heap.size, ⟨hx, (Below.refl _ _).alloc hI.le _, fun _ _ _ => rfl, fun _ _ => rfl⟩, hI.new _ e _ ⟨if_pos rfl, ⟨d, he⟩, cs, tail, rfl, hr.ext hx⟩, .slice e, ?_, rfl⟩
  have hm : (c.newObj e w.heap.size).μ σ.next = w.heap.size := by rw [← hI.next]; exact if_pos rfl
  have := RepV.view (T := T) (c.newObj e w.heap.size) e σ.next [] 0 xs.length 0 cap (by rw [← hI.next]; exact Nat.lt_succ_self _) (by rw [← hI.next, show (c.newObj e w.heap.size).ε c.next = e from if_pos rfl]; simp [Tab.rowLoc, he]) hcap
  rw [hm] at this
  simpa [Value.cells] using this
theorem fillA_length {ts : List TypeId} : ∀ {parts : List (Nat × AV)} {vs us : List AV}, fillA T ts vs parts = some us → us.length = vs.length
  | [], vs, us, h => by simp only [fillA, Option.some.injEq] at h; rw [h]
  | (i, v) :: r, vs, us, h => by
    simp only [fillA] at h
    split at h
    · split at h
      · rw [fillA_length h]; simp
      · cases h
    · cases h
theorem run_buildSlice' (hT : TabOk P T) {t e : TypeId} {d : Ty} (ht : T.ty t = some (.slice e)) (he : T.ty e = some d) {n : Nat} (h1 : n ≤ 1000) (h2 : T.size e ≤ 10000) {parts : List (Nat × AV)} {parts' : List (Nat × Value)} {xs : List AV}
    (hf : fillA T (List.replicate n e) (List.replicate n (T.zero e)) parts = some xs) (hl : parts'.length = parts.length) (hp : ∀ (i : Nat) p q, parts[i]? = some p → parts'[i]? = some q → q.1 = p.1 ∧ RepT T c p.2 q.2) :
    ∃ cs, (Instr.buildSlice t n parts'.toArray).run P w = .ok (.slice (some ⟨w.heap.size, 0, none⟩) n n) (w.alloc (.cells cs.toArray e)) ∧ RepL T c (List.replicate n e) xs cs := by
  obtain ⟨i, z, g1, g2, g3, g4, g5, g6⟩ := made_rep (c := c) hT he n
  obtain ⟨D, hu, hrun, hd⟩ := run_under hT w ht
  obtain rfl := desc_slice hd
  obtain ⟨cs, k1, k2⟩ := fill_rep hT.sz (place := fun i => some (i * T.size e, T.size e)) hf g6 hl hp (fun i u hi => by
    obtain ⟨hlt, rfl⟩ : i < n ∧ e = u := by rw [List.getElem?_replicate] at hi; split at hi <;> simp_all
    rw [List.take_replicate, sum_replicate, Nat.min_eq_left (Nat.le_of_lt hlt)])
  refine ⟨cs, ?_, k2⟩
  have hm : n * T.size e ≤ 1000 * 10000 := Nat.mul_le_mul h1 h2
  have hlim : ¬ 16777216 < n * T.size e := by omega
  have hz : (zeroValue e).run P w = .ok z w := by simp [zeroValue, typeInfo, g1, g5]
  have hs : (sizeOf e).run P w = .ok (T.size e) w := run_size hT w he
  simp only [madeCells] at k1
  by_cases h0 : n * T.size e = 0
  · rw [h0] at k1
    have k1 : Instr.fill (fun i => some (i * T.size e, T.size e)) #[] parts' = some cs.toArray := by simpa using k1
    simp [Instr.buildSlice, Sem.run_bind, hrun, hs, h0, newRow, show Array.range 0 = #[] from rfl, k1]
  · rw [Array.toArray_toList] at k1
    simp [Instr.buildSlice, Sem.run_bind, hrun, hs, h0, hlim, hz, newRow, k1]
mutual
theorem RepV.norm : ∀ {v : AV} {d : Ty} {cs : List Value} {t : TypeId}, RepV T c d v cs → T.ty t = some d → RepV T c d (normT T t v) cs
  | .agg s vs, d, cs, t, h, ht => by
    cases h with
    | agg _ _ _ ts _ _ hs hd h =>
      simp only [normT, ht, hd]
      exact .agg _ s d ts _ _ hs hd h.norm
  | .list e n xs tok, d, cs, t, h, ht => by
    simp only [normT]
    cases h with
    | list0 _ _ _ a cap _ hn hk =>
      refine .list0 c e n a cap _ hn ?_
      split
      · exact hk
      · trivial
    | list _ _ _ cs b o cap _ h hF hne hcap hk =>
      refine .list c e xs cs b o cap _ h hF hne hcap ?_
      split
      · exact hk
      · trivial
  | .mt b, d, cs, t, h, ht => by
    cases h with
    | mt _ e _ a hb =>
      simp only [normT, ht]
      exact .list0 c e b a 0 none hb trivial
  | .undef, _, _, _, h, _ => by cases h
  | .bool _, _, _, _, h, _ => h
  | .int _ _, _, _, _, h, _ => h
  | .str _, _, _, _, h, _ => h
  | .tup _, _, _, _, h, _ => by cases h
  | .view .., _, _, _, h, _ => h
  | .nilp, _, _, _, h, _ => h
  | .ptr .., _, _, _, h, _ => h
  | .fptr .., _, _, _, h, _ => h
  | .nilf, _, _, _, h, _ => h
  | .func .., _, _, _, h, _ => h
  | .nilm, _, _, _, h, _ => h
  | .map _, _, _, _, h, _ => h
  | .nili, _, _, _, h, _ => h
  | .iface .., _, _, _, h, _ => h
theorem RepL.norm : ∀ {vs : List AV} {ts : List TypeId} {cs : List Value}, RepL T c ts vs cs → RepL T c ts (normL T ts vs) cs
  | [], ts, cs, h => by cases h; exact .nil c
  | v :: vs, ts, cs, h => by
    cases h with
    | cons _ t d ts _ _ us ds ht hv hs =>
      simp only [normL]
      exact .cons c t d ts _ _ us ds ht (hv.norm ht) hs.norm
end
theorem normL_length {T : Tab} : ∀ {vs : List AV} {ts : List TypeId}, (normL T ts vs).length = vs.length
  | [], ts => by cases ts <;> rfl
  | v :: vs, [] => rfl
  | v :: vs, t :: ts => by simp [normL, normL_length]
theorem sd_buildSlice (hT : TabOk P T) (hI : Inv T base c σ w) {t e : TypeId} (ht : T.ty t = some (.slice e)) {n : Nat} (h1 : n ≤ 1000) (h2 : T.size e ≤ 10000) {parts : List (Nat × AV)} {parts' : List (Nat × Value)} {xs : List AV}
    (hf : fillA T (List.replicate n e) (List.replicate n (T.zero e)) parts = some xs) (hl : parts'.length = parts.length) (hp : ∀ (i : Nat) p q, parts[i]? = some p → parts'[i]? = some q → q.1 = p.1 ∧ RepT T c p.2 q.2) :
    ∃ y w', (Instr.buildSlice t n parts'.toArray).run P w = .ok y w' ∧
      (pureL (normL T (List.replicate n e) xs) = true → ∃ c', Fwd base c c' w w' ∧ Inv T base c' σ w' ∧ RepT T c' (.list e false (normL T (List.replicate n e) xs) (some 0)) y) ∧
      ∃ c', Fwd base c c' w w' ∧ Inv T base c' (σ.new (.cells e xs)) w' ∧ RepT T c' (.view e σ.next [] 0 n) y := by
  obtain ⟨d, he⟩ := hT.elem t e ht
  obtain ⟨cs, k1, k2⟩ := run_buildSlice' hT (w := w) ht he h1 h2 hf hl hp
  have hn : xs.length = n := by rw [fillA_length hf, List.length_replicate]
  subst hn
  refine ⟨_, _, k1, fun hpu => ?_, ?_⟩
  · have := sd_row_list hT hI (xs := normL T (List.replicate xs.length e) xs) (by rw [normL_length]; exact k2.norm) hpu
    rw [normL_length] at this
    exact this
  have := sd_row_view hT hI (tail := []) he k2 (Nat.le_refl _)
  rw [List.append_nil] at this
  exact this
theorem pureL_replicate {v : AV} (h : pure1 v = true) : ∀ n, pureL (List.replicate n v) = true
  | 0 => rfl
  | n + 1 => by rw [List.replicate_succ, pureL, h, pureL_replicate h n]; rfl
theorem sd_makeSlice (hT : TabOk P T) (hI : Inv T base c σ w) {t e : TypeId} (ht : T.ty t = some (.slice e)) {kl kc : IntKind} {n : Int} (h0 : 0 ≤ n) (h1 : n.toNat * T.bytes e ≤ most) (h2 : n ≤ most) :
    ∃ y w', (Instr.makeSlice t (.int kl n) (.int kc n)).run P w = .ok y w' ∧
      (pure1 (T.zero e) = true → ∃ c', Fwd base c c' w w' ∧ Inv T base c' σ w' ∧ RepT T c' (.list e false (List.replicate n.toNat (T.zero e)) (some 0)) y) ∧
      ∃ c', Fwd base c c' w w' ∧ Inv T base c' (σ.new (.cells e (List.replicate n.toNat (T.zero e)))) w' ∧ RepT T c' (.view e σ.next [] 0 n.toNat) y := by
  obtain ⟨d, he⟩ := hT.elem t e ht
  obtain ⟨i, z, g1, g2, g3, g4, g5, g6⟩ := made_rep (c := c) hT he n.toNat
  obtain ⟨D, hu, hrun, hd⟩ := run_under hT w ht
  obtain rfl := desc_slice hd
  have hm : (most : Int) = 200000000000000 := rfl
  have hm' : most = 200000000000000 := rfl
  have hb : (i.bytes : Int) * n ≤ 281474976710656 := by
    rw [g3]
    have : ((n.toNat * T.bytes e : Nat) : Int) ≤ 200000000000000 := by omega
    rw [Int.natCast_mul, Int.toNat_of_nonneg h0, Int.mul_comm] at this
    omega
  have hr := run_make (P := P) w t e i z hu g1 g5 kl kc n n h0 (Int.le_refl _) hb (by omega)
  rw [g2] at hr
  have g6' : RepL T c (List.replicate (List.replicate n.toNat (T.zero e)).length e) (List.replicate n.toNat (T.zero e)) (madeCells z.cells (n.toNat * T.size e)).toList := by rw [List.length_replicate]; exact g6
  refine ⟨_, _, hr, fun hpu => ?_, ?_⟩
  · have := sd_row_list hT hI g6' (pureL_replicate hpu _)
    rw [List.length_replicate] at this
    exact this
  · have := sd_row_view hT hI (tail := []) (cap := n.toNat) he g6' (by simp)
    rw [List.append_nil, List.length_replicate] at this
    exact this
end
end Go.Proofs.Yticlihmbikcohaa.Va
