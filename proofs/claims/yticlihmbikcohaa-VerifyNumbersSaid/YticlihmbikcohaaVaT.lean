/- what a slice holds; aggregates; conversions; lengths -/
import Derived.Test.YticlihmbikcohaaVaQ
import Derived.Deep.AppendSrc
namespace Go.Proofs.Yticlihmbikcohaa.Va
open Go Go.RowKit
set_option linter.unusedVariables false
set_option linter.unusedSimpArgs false
section
variable {P : Program} {T : Tab} {c : Cx} {base : Nat} {σ : St} {w : World}
theorem RepL.length {ts : List TypeId} {vs : List AV} {cs : List Value} (h : RepL T c ts vs cs) : vs.length = ts.length := by
  induction ts generalizing vs cs with
  | nil => cases h; rfl
  | cons t ts ih => cases h with | cons _ _ _ _ _ _ _ _ _ _ hs => simp [ih hs]
def elemOf : AV → Option TypeId
  | .list e _ _ _ => some e
  | .view e _ _ _ _ => some e
  | _ => none
/-- What a slice reads as. -/
theorem slice_read (hT : TabOk P T) (hI : Inv T base c σ w) {v : AV} {xs : List AV} {x : Value} (h : @sliceOf ⟨σ⟩ v = some xs) (hr : RepT T c v x) :
    ∃ a cap cs, x = .slice a xs.length cap ∧ xs.length ≤ cap ∧ (∀ e, elemOf v = some e → RepL T c (List.replicate xs.length e) xs cs) ∧ (xs = [] → cs = []) ∧
      (xs ≠ [] → ∃ b o, a = some ⟨b, o, none⟩ ∧ ∀ (j : Nat) u, cs[j]? = some u → w.cell? ⟨b, o + j, none⟩ = some u) := by
  unfold sliceOf at h
  split at h
  · simp only [Option.some.injEq] at h; subst h
    obtain ⟨a, rfl, _⟩ := rep_mt hr
    exact ⟨a, 0, [], rfl, Nat.le_refl _, fun e _ => .nil c, fun _ => rfl, fun h => absurd rfl h⟩
  · simp only [Option.some.injEq] at h; subst h
    rcases rep_list hr with ⟨rfl, a, cap, rfl, _⟩ | ⟨hne, _, cs, b, o, cap, rfl, hL, hF, hcap, _⟩
    · exact ⟨a, cap, [], rfl, Nat.zero_le _, fun e _ => .nil c, fun _ => rfl, fun h => absurd rfl h⟩
    · refine ⟨_, cap, cs, rfl, hcap, fun e' he => ?_, fun h => absurd h hne, fun _ => ⟨b, o, rfl, fun j u hj => hI.F _ _ _ (hF j u hj)⟩⟩
      simp only [elemOf, Option.some.injEq] at he; subst he; exact hL.open
  · rename_i e id path off len
    obtain ⟨o, cap, rfl, hid, hl, hcap⟩ := rep_view hr
    split at h
    · rename_i e'' vs hob
      obtain ⟨h1, h2, h3, hO⟩ := hI.obj id _ hob
      obtain ⟨he, _, cs0, tail, hblk, hL⟩ := hO
      split at h
      · split at h
        · rename_i hle
          simp only [Option.some.injEq] at h; subst h
          simp only [Tab.rowLoc, he] at hl
          split at hl
          · simp only [Option.some.injEq, Prod.mk.injEq] at hl
            obtain ⟨rfl, rfl⟩ := hl
            obtain ⟨us, g1, g2⟩ := take_drop_rep hT.sz hL off len hle
            have hlen : ((vs.drop off).take len).length = len := by simp; omega
            refine ⟨_, cap, us, by rw [hlen], by rw [hlen]; exact hcap, fun e' he' => ?_, fun h0 => ?_, fun _ => ⟨_, _, rfl, fun j u hj => ?_⟩⟩
            · simp only [elemOf, Option.some.injEq] at he'; subst he'; rw [hlen]; exact g1
            · rw [h0] at g1; have := g1.length; simp at this; subst this; cases g1; rfl
            · have := g2 j u hj
              rw [cell_of_row w _ _ _ _ _ hblk, List.getElem?_toArray, Nat.zero_add, List.getElem?_append_left (List.getElem?_eq_some_iff.1 this).1]
              exact this
          · cases hl
        · cases h
      · rename_i hne
        split at h
        · rename_i s us0 hrow
          split at h
          · rename_i hle
            simp only [Option.some.injEq] at h; subst h
            obtain ⟨o', t', d', us, g1, g2, g3, g4, _⟩ := hL.part hT.sz hrow
            have hl' : ∃ n, T.ty t' = some (.array n e) ∧ o' = o := by
              unfold Tab.rowLoc at hl
              split at hl
              · exact absurd rfl hne
              · rw [he, g1] at hl
                simp only at hl
                split at hl
                · rename_i n u ht
                  split at hl
                  · simp only [Option.some.injEq, Prod.mk.injEq] at hl
                    obtain ⟨rfl, rfl⟩ := hl
                    exact ⟨n, ht, rfl⟩
                  · cases hl
                · cases hl
            obtain ⟨n, ht', rfl⟩ := hl'
            rw [ht'] at g2
            obtain rfl := Option.some.inj g2
            cases g3 with
            | agg _ _ _ ts _ _ hts hcomp hL2 =>
              obtain rfl : List.replicate n e = ts := by simpa [Tab.comps] using hcomp
              have hn : us0.length = n := by simpa using hL2.length
              subst hn
              obtain ⟨zs, k1, k2⟩ := take_drop_rep hT.sz hL2 off len hle
              have hlen : ((us0.drop off).take len).length = len := by simp; omega
              refine ⟨_, cap, zs, by rw [hlen], by rw [hlen]; exact hcap, fun e' he' => ?_, fun h0 => ?_, fun _ => ⟨_, _, rfl, fun j u hj => ?_⟩⟩
              · simp only [elemOf, Option.some.injEq] at he'; subst he'; rw [hlen]; exact k1
              · rw [h0] at k1; have := k1.length; simp at this; subst this; cases k1; rfl
              · have e1 := k2 j u hj
                have hlt := (List.getElem?_eq_some_iff.1 e1).1
                have e2 := g4 _ hlt
                rw [e1] at e2
                rw [cell_of_row w _ _ _ _ _ hblk, List.getElem?_toArray, Nat.add_assoc, List.getElem?_append_left (List.getElem?_eq_some_iff.1 e2).1]
                exact e2
          · cases h
        · cases h
    · cases h
  · cases h
theorem foldl_set (o : Nat) : ∀ (us : List Value) (k : Nat) (arr : Array Value), o + k + us.length ≤ arr.size →
    ((us.zipIdx k).foldl (fun cs p => cs.setIfInBounds (o + p.2) p.1) arr).toList = arr.toList.take (o + k) ++ (us ++ arr.toList.drop (o + k + us.length))
  | [], k, arr, _ => by simp
  | u :: us, k, arr, h => by
    simp only [List.zipIdx_cons, List.foldl_cons]
    rw [foldl_set o us (k + 1) _ (by simp at h ⊢; omega)]
    simp only [List.length_cons] at h ⊢
    rw [Array.toList_setIfInBounds]
    have hL : arr.toList.length = arr.size := Array.length_toList
    generalize arr.toList = L at hL ⊢
    generalize arr.size = n at hL h
    subst hL
    apply List.ext_getElem?
    intro j
    by_cases c1 : j < o + k
    · rw [List.getElem?_append_left (by simp; omega), List.getElem?_append_left (by simp; omega), List.getElem?_take_of_lt (by omega), List.getElem?_take_of_lt c1, List.getElem?_set_ne (by omega)]
    · by_cases c2 : j = o + k
      · subst c2
        rw [List.getElem?_append_left (by simp; omega), List.getElem?_take_of_lt (by omega), List.getElem?_set_self (by omega), List.getElem?_append_right (by simp; omega)]
        simp [Nat.min_eq_left (show o + k ≤ L.length by omega)]
      · have e1 : ((L.set (o + k) u).take (o + (k + 1))).length = o + (k + 1) := by simp; omega
        have e2 : (L.take (o + k)).length = o + k := by simp; omega
        rw [List.getElem?_append_right (l₁ := (L.set (o + k) u).take (o + (k + 1))) (by omega), List.getElem?_append_right (l₁ := L.take (o + k)) (by omega), e1, e2,
          show j - (o + k) = (j - (o + (k + 1))) + 1 by omega, List.cons_append, List.getElem?_cons_succ]
        by_cases c3 : j - (o + (k + 1)) < us.length
        · rw [List.getElem?_append_left c3, List.getElem?_append_left c3]
        · rw [List.getElem?_append_right (by omega), List.getElem?_append_right (by omega), List.getElem?_drop, List.getElem?_drop, List.getElem?_set_ne (by omega)]
          congr 1; omega
theorem fill_rep (hT : TabSz T) {ts : List TypeId} : ∀ {parts : List (Nat × AV)} {parts' : List (Nat × Value)} {vs vs' : List AV} {cs : List Value} {place : Nat → Option (Nat × Nat)} (_ : fillA T ts vs parts = some vs') (_ : RepL T c ts vs cs)
    (_ : parts'.length = parts.length) (_ : ∀ (i : Nat) p q, parts[i]? = some p → parts'[i]? = some q → q.1 = p.1 ∧ RepT T c p.2 q.2) (_ : ∀ (i : Nat) t, ts[i]? = some t → place i = some (T.sum (ts.take i), T.size t)),
    ∃ cs', Instr.fill place cs.toArray parts' = some cs'.toArray ∧ RepL T c ts vs' cs'
  | [], parts', vs, vs', cs, place, h, hL, hl, _, _ => by
    simp only [fillA, Option.some.injEq] at h; subst h
    obtain rfl := List.eq_nil_of_length_eq_zero (by simpa using hl)
    exact ⟨cs, rfl, hL⟩
  | (i, v) :: r, parts', vs, vs', cs, place, h, hL, hl, hp, hpl => by
    match parts', hl with
    | (i', x) :: r', hl =>
      obtain ⟨h1, h2⟩ := hp 0 _ _ rfl rfl
      simp only at h1 h2
      subst h1
      simp only [fillA] at h
      split at h
      · rename_i ft hft
        split at h
        · rename_i hfit
          have hr1 : ∃ d, T.ty ft = some d ∧ RepV T c d v x.cells.toList := by
            cases v <;> first | (simp [fits] at hfit; done) | (obtain ⟨d, hd, _⟩ := h2; exact hd.fit hfit)
          obtain ⟨d, hd, hv⟩ := hr1
          have hlt : i' < vs.length := by rw [hL.length]; exact (List.getElem?_eq_some_iff.1 hft).1
          obtain ⟨t1, d1, us, A, B, g1, g2, g3, rfl, g5, g6⟩ := hL.nth hT i' (List.getElem?_eq_getElem hlt)
          rw [hft] at g1
          obtain rfl := Option.some.inj g1
          rw [hd] at g2
          obtain rfl := Option.some.inj g2
          have l1 := g3.len hT
          have l2 := hv.len hT
          rw [← hT ft d hd] at l1 l2
          obtain ⟨cs', k1, k2⟩ := fill_rep hT (place := place) h (g6 v _ hv) (by simpa using hl) (fun j p q hj hq => hp (j + 1) p q (by simpa using hj) (by simpa using hq)) hpl
          refine ⟨cs', ?_, k2⟩
          simp only [Instr.fill, hpl i' ft hft]
          have hsz : x.cells.size = T.size ft := by simpa using l2
          rw [if_neg (by simp [hsz]; rw [← g5, ← l1]; omega)]
          rw [← k1]
          congr 1
          rw [← g5]
          apply Array.ext'
          have hl2 : x.cells.toList.length = us.length := by rw [l2, l1]
          have hf := foldl_set A.length x.cells.toList 0 (A ++ (us ++ B)).toArray (by simp at hl2 ⊢; omega)
          rw [← Array.foldl_toList, Array.toList_zipIdx]
          refine hf.trans ?_
          rw [hl2]
          simp
        · cases h
      · cases h
theorem mapM_some {α β : Type} (h : α → Option β) (g : α → β) : ∀ (l : List α), (∀ a ∈ l, h a = some (g a)) → l.mapM h = some (l.map g)
  | [], _ => rfl
  | a :: l, hl => by simp [List.mapM_cons, hl a (by simp), mapM_some h g l (fun b hb => hl b (by simp [hb]))]
theorem sd_build (hT : TabOk P T) {t : TypeId} {parts : List (Nat × AV)} {parts' : List (Nat × Value)} {r : AV} (h : aBuild T t parts = some r) (hl : parts'.length = parts.length) (hp : ∀ (i : Nat) p q, parts[i]? = some p → parts'[i]? = some q → q.1 = p.1 ∧ RepT T c p.2 q.2) :
    ∃ x, (Instr.build t parts'.toArray).run P w = .ok x w ∧ RepT T c r x := by
  unfold aBuild at h
  split at h
  · rename_i s zs d hz ht
    split at h
    · rename_i ts hts
      split at h
      · rename_i hs
        cases hf : fillA T ts zs parts with
        | none => rw [hf] at h; cases h
        | some vs =>
          rw [hf] at h
          simp only [Option.map_some, Option.some.injEq] at h
          subst h
          obtain ⟨it, z, hi, _, _, _, hzz, hzr, _⟩ := hT.info t d ht
          have hzr := hzr c
          rw [hz] at hzr
          have hL : RepL T c ts zs z.cells.toList := by
            generalize z.cells.toList = cs at hzr
            cases hzr with
            | agg _ _ _ ts' _ _ h1 h2 h3 => rw [hts] at h2; obtain rfl := Option.some.inj h2; exact h3
          obtain ⟨D, hu, hrun, hd⟩ := run_under hT w ht
          have fin : ∀ place : Nat → Option (Nat × Nat), (∀ (i : Nat) t, ts[i]? = some t → place i = some (T.sum (ts.take i), T.size t)) → P.built t parts' = Instr.fill place z.cells parts' → ∃ x, (Instr.build t parts'.toArray).run P w = .ok x w ∧ RepT T c (.agg t vs) x := by
            intro place hpl hb
            obtain ⟨cs', k1, k2⟩ := fill_rep hT.sz hf hL hl hp hpl
            have hb' : P.built t parts'.toArray.toList = some cs'.toArray := by simpa [hb] using k1
            exact ⟨_, run_build w t _ _ hb', mk_agg ht hts (by simpa using k2)⟩
          cases d with
          | struct fs =>
            obtain rfl : fs = ts := by simpa [Tab.comps] using hts
            obtain ⟨F, rfl, hFs, hF⟩ := desc_struct hd
            have hm := mapM_some (fun f : Field => (P.info? f.type).map fun i => (f.offset, i.size)) (fun f => (f.offset, T.size f.type)) F.toList (fun f hf => by
              obtain ⟨i, hi, rfl⟩ := List.mem_iff_getElem.1 hf
              obtain ⟨g1, _⟩ := hF i F.toList[i] (by rw [← Array.getElem?_toList]; exact List.getElem?_eq_getElem hi)
              obtain ⟨d', hd'⟩ := hT.sub t _ fs ht rfl _ (List.mem_of_getElem? g1)
              obtain ⟨it', z', k1, k2, _⟩ := hT.info _ d' hd'
              rw [k1]; simp [k2])
            refine fin (fun i => ((F.toList.map fun f => (f.offset, T.size f.type)).toArray)[i]?) (fun i u hi => ?_) ?_
            · obtain ⟨f, k1, rfl, k3⟩ := field_of hFs hF hi
              have : F.toList[i]? = some f := by rw [Array.getElem?_toList]; exact k1
              simp [this, k3, k1]
            · unfold Program.built
              simp only [hi, hu, hzz, hm]
          | array n e =>
            obtain rfl : List.replicate n e = ts := by simpa [Tab.comps] using hts
            obtain rfl := desc_array hd
            obtain ⟨d', hd'⟩ := hT.arr t n e ht
            obtain ⟨it', z', k1, k2, _⟩ := hT.info _ d' hd'
            refine fin (fun i => some (i * it'.size, it'.size)) (fun i u hi => ?_) ?_
            · obtain ⟨hlt, rfl⟩ : i < n ∧ e = u := by rw [List.getElem?_replicate] at hi; split at hi <;> simp_all
              rw [List.take_replicate, sum_replicate, Nat.min_eq_left (Nat.le_of_lt hlt), k2]
            · unfold Program.built
              simp only [hi, hu, hzz, k1]
          | _ => simp [Tab.comps] at hts
      · cases h
    · cases h
  · cases h
theorem unbyte_rep {e : TypeId} (he : T.ty e = some (.int .u8)) : ∀ {xs : List AV} {cs : List Value} {bs : List UInt8}, RepL T c (List.replicate xs.length e) xs cs → xs.mapM unbyte = some bs → ∃ ns : List Int, cs = ns.map (Value.int .u8) ∧ bs = ns.map fun n => UInt8.ofNat n.toNat
  | [], cs, bs, h, hm => by
    cases h
    simp only [List.mapM_nil, Option.pure_def, Option.some.injEq] at hm
    exact ⟨[], rfl, hm.symm⟩
  | x :: xs, cs, bs, h, hm => by
    simp only [List.length_cons, List.replicate_succ] at h
    cases h with
    | cons _ _ d _ _ _ c1 c2 ht h1 h2 =>
      rw [he] at ht
      obtain rfl := Option.some.inj ht
      cases h1 with
      | int _ _ n =>
        simp only [List.mapM_cons, unbyte, Option.bind_eq_bind, Option.bind_some] at hm
        cases hr : xs.mapM unbyte with
        | none => rw [hr] at hm; cases hm
        | some bs' =>
          rw [hr] at hm
          simp only [Option.bind_some, Option.pure_def, Option.some.injEq] at hm
          subst hm
          obtain ⟨ns, rfl, rfl⟩ := unbyte_rep he h2 hr
          exact ⟨n :: ns, rfl, rfl⟩
      | agg _ _ _ _ _ _ _ hd _ => simp [Tab.comps] at hd
theorem push_fold : ∀ (ns : List Int) (s : ByteArray), (ns.foldl (fun r n => r.push (UInt8.ofNat n.toNat)) s).data.toList = s.data.toList ++ ns.map fun n => UInt8.ofNat n.toNat
  | [], s => by simp
  | n :: ns, s => by rw [List.foldl_cons, push_fold ns]; simp [ByteArray.push]
theorem sd_convert (hT : TabOk P T) (hI : Inv T base c σ w) {s d : TypeId} {v r : AV} {x : Value} (h : @aConvert T ⟨σ⟩ s d v = some r) (hr : RepT T c v x) :
    ∃ y, (convert s d x).run P w = .ok y w ∧ RepT T c r y := by
  unfold aConvert at h
  split at h
  · rename_i k k' n hd
    split at h
    rotate_left
    · cases h
    rename_i hsrc
    obtain ⟨ds, hds⟩ := Option.isSome_iff_exists.1 hsrc
    obtain ⟨D, hD, _⟩ := hT.und s ds hds
    have hrs := run_underlying hD w
    simp only [Option.some.injEq] at h; subst h
    obtain rfl := rep_int hr
    obtain ⟨D', hu, hrun, hdd⟩ := run_under hT w hd
    obtain rfl := desc_int hdd
    refine ⟨_, ?_, mk_int _ _⟩
    cases D <;> simp [convert, Sem.run_bind, hrs, hrun, Conv.intToInt]
  · rename_i b hd
    split at h
    · rename_i hs
      simp only [Option.some.injEq] at h; subst h
      obtain rfl := rep_str hr
      obtain ⟨D', hu, hrun, hdd⟩ := run_under hT w hd
      obtain rfl := desc_str hdd
      obtain ⟨D, hD, hrs, _⟩ := run_under hT w hs
      refine ⟨_, ?_, mk_str _⟩
      cases D <;> simp [convert, Sem.run_bind, hrs, hrun]
    · cases h
  · rename_i v0 ot v' hd hne
    split at h
    · rename_i e hs
      split at h
      · rename_i he
        obtain ⟨xs, hxs, h⟩ := Option.bind_eq_some_iff.1 h
        cases hm : xs.mapM unbyte with
        | none => rw [hm] at h; cases h
        | some bs =>
          rw [hm] at h
          simp only [Option.map_some, Option.some.injEq] at h; subst h
          obtain ⟨Ds, hus, _, hds⟩ := run_under hT w hs
          obtain rfl := desc_slice hds
          obtain ⟨De, hue, _, hde⟩ := run_under hT w he.1
          obtain rfl := desc_int hde
          obtain ⟨Dd, hud, _, hdd⟩ := run_under hT w hd
          obtain rfl := desc_str hdd
          obtain ⟨a, cap, cs, rfl, _, hL, hnil, hcell⟩ := slice_read hT hI hxs hr
          have hfin : ∀ ns : List Int, bs = ns.map (fun n => UInt8.ofNat n.toNat) → (ns.foldl (fun r n => r.push (UInt8.ofNat n.toNat)) ByteArray.empty) = ⟨bs.toArray⟩ := fun ns hb => by
            have := push_fold ns ByteArray.empty
            rw [← hb] at this
            simp at this
            cases hq : ns.foldl (fun r n => r.push (UInt8.ofNat n.toNat)) ByteArray.empty with
            | mk q => rw [hq] at this; simp at this; rw [← this]
          refine ⟨.string ⟨bs.toArray⟩, ?_, mk_str _⟩
          rw [run_convert_bytes_string w s d e a _ cap hus hue hud]
          by_cases hx : xs = []
          · subst hx
            simp only [List.mapM_nil, Option.pure_def, Option.some.injEq] at hm
            subst hm
            cases a with
            | none => simp [Conv.bytesToString]; rfl
            | some a =>
              have := run_bytesToString (P := P) w a 0 cap [] (by simp [loadCells, loadCellsFrom])
              exact this
          · obtain ⟨b, o, rfl, hc⟩ := hcell hx
            have hel : elemOf v0 = some e := by
              have h2 := he.2
              unfold elemIs at h2
              split at h2
              · simp [sliceOf] at hxs; exact absurd hxs hx
              · simpa [elemOf] using h2
              · simpa [elemOf] using h2
              · cases h2
            obtain ⟨ns, rfl, hb⟩ := unbyte_rep he.1 (hL e hel) hm
            have hlen : xs.length = (ns.map (Value.int .u8)).length := by
              have := (hL e hel).len hT.sz
              rw [this, sum_replicate, hT.sz e _ he.1]; simp [Tab.sz]
            have hload := run_loadCells_list (P := P) w ⟨b, o, none⟩ (ns.map (Value.int .u8)) (fun j u hj => by rw [Addr.add_lit]; exact hc j u hj)
            rw [hlen, run_bytesToString w _ _ cap ns (by simpa using hload), hfin ns hb]
      · cases h
    · cases h
  · cases h
end
end Go.Proofs.Yticlihmbikcohaa.Va
