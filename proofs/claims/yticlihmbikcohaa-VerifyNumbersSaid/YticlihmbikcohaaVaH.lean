/- the machine's operations on maps, against the interpreter's -/
import Derived.Test.YticlihmbikcohaaVaU
import Derived.MapKept
namespace Go.Proofs.Yticlihmbikcohaa.Va
open Go Go.RowKit Go.MapKept
set_option linter.unusedVariables false
set_option linter.unusedSimpArgs false
section
variable {P : Program} {T : Tab} {base : Nat} {c : Cx} {σ : St} {w : World}
/-- A key of a table's type reads as one. -/
theorem key_of {kt : TypeId} {d : Ty} {k : AV} {x : Value} (hT : TabOk P T) (h : keyD T kt k = some d) (hr : RepT T c k x) : T.ty kt = some d ∧ fits T kt k = true ∧ ∃ D, P.underlying kt = some D ∧ DescOk T d D ∧ IsKey D x := by
  unfold keyD at h
  split at h
  · rename_i d' hd
    split at h
    · rename_i hf
      simp only [Option.some.injEq] at h
      subst h
      simp only [Bool.and_eq_true] at hf
      obtain ⟨D, hu, hD⟩ := hT.und kt d' hd
      refine ⟨hd, hf.2, D, hu, hD, ?_⟩
      obtain ⟨d2, hd2, hv, _⟩ := hr.fit hf.2
      rw [hd] at hd2
      obtain rfl := Option.some.inj hd2
      have hs := hf.1
      cases d' with
      | bool =>
        obtain rfl := desc_bool hD
        cases k <;> simp [fits, hd] at hf <;> first | (obtain rfl := rep_bool hr; trivial) | skip
        all_goals first | (cases hv; done) | (cases hv; simp_all [Tab.comps])
      | int q =>
        obtain rfl := desc_int hD
        cases k <;> simp [fits, hd] at hf <;> first | (obtain rfl := rep_int hr; exact hf.2.symm) | skip
        all_goals first | (cases hv; done) | (cases hv; simp_all [Tab.comps])
      | str =>
        obtain rfl := desc_str hD
        cases k <;> simp [fits, hd] at hf <;> first | (obtain rfl := rep_str hr; trivial) | skip
        all_goals first | (cases hv; done) | (cases hv; simp_all [Tab.comps])
      | _ => cases hs
    · cases h
  · cases h
theorem keyEq_now {d : Ty} {D : TypeDesc} (hD : DescOk T d D) {k k' : AV} {x x' : Value} {b : Bool} (h : keyEq d k k' = some b) (hr : RepT T c k x) (hr' : RepT T c k' x') : Instr.sameNow D x x' = some b ∧ (b = true → x' = x) := by
  unfold keyEq at h
  split at h
  · rename_i q a q' a'
    split at h
    · rename_i hc
      obtain ⟨rfl, rfl⟩ := hc
      simp only [Option.some.injEq] at h
      subst h
      obtain rfl := rep_int hr
      obtain rfl := rep_int hr'
      obtain rfl := desc_int hD
      exact ⟨by simp [Instr.sameNow], fun e => by simp at e; rw [e]⟩
    · cases h
  · rename_i a a'
    split at h
    · rename_i hc
      subst hc
      simp only [Option.some.injEq] at h
      subst h
      obtain rfl := rep_bool hr
      obtain rfl := rep_bool hr'
      obtain rfl := desc_bool hD
      exact ⟨by simp [Instr.sameNow], fun e => by simp at e; rw [e]⟩
    · cases h
  · rename_i a a'
    split at h
    · rename_i hc
      subst hc
      simp only [Option.some.injEq] at h
      subst h
      obtain rfl := rep_str hr
      obtain rfl := rep_str hr'
      obtain rfl := desc_str hD
      refine ⟨by simp only [Instr.sameNow]; rw [beq_toListBytes], fun e => ?_⟩
      rw [← beq_toListBytes, bytes_beq] at e
      rw [e]
    · cases h
  · cases h
theorem find_now {d : Ty} {D : TypeDesc} (hD : DescOk T d D) {kt vt : TypeId} {k : AV} {x : Value} (hr : RepT T c k x) : ∀ (es : List (AV × AV)) (ents : List MapEntry) (i : Nat) {r : Option (Nat × AV)}, ents.length = es.length → (∀ (j : Nat) a b, es[j]? = some a → ents[j]? = some b → EntRep T c kt vt a b) →
    findAV d k es i = some r →
    (r = none ∧ Instr.findNow D x ents i = some none) ∨ ∃ j u v e, r = some (i + j, u) ∧ Instr.findNow D x ents i = some (some (i + j, v)) ∧ ents[j]? = some e ∧ e.key = x ∧ e.val = v ∧ Rep1 T c u v
  | [], ents, i, r, hl, he, h => by
    obtain rfl := List.eq_nil_of_length_eq_zero (by simpa using hl)
    simp only [findAV, Option.some.injEq] at h
    exact .inl ⟨h.symm, rfl⟩
  | a :: es, ents, i, r, hl, he, h => by
    match ents, hl with
    | b :: ents, hl =>
      obtain ⟨⟨d1, h1, h2, h3⟩, d2, g1, g2, g3⟩ := he 0 a b rfl rfl
      have hk : RepT T c a.1 b.key := Rep1.toT ⟨d1, h2, h3⟩
      simp only [findAV] at h
      cases hq : keyEq d k a.1 with
      | none => rw [hq] at h; cases h
      | some t =>
        obtain ⟨e1, e2⟩ := keyEq_now hD hq hr hk
        rw [hq] at h
        cases t with
        | true =>
          simp only [Option.some.injEq] at h
          subst h
          exact .inr ⟨0, a.2, b.val, b, rfl, by simp [Instr.findNow, e1], rfl, e2 rfl, rfl, d2, g2, g3⟩
        | false =>
          simp only at h
          rcases find_now hD hr es ents (i + 1) (by simpa using hl) (fun j a' b' ha hb => he (j + 1) a' b' (by simpa using ha) (by simpa using hb)) h with ⟨r1, r2⟩ | ⟨j, u, v, e, r1, r2, r3, r4, r5, r6⟩
          · exact .inl ⟨r1, by simp [Instr.findNow, e1, r2]⟩
          · exact .inr ⟨j + 1, u, v, e, by rw [r1, show i + 1 + j = i + (j + 1) by omega], by simp only [Instr.findNow, e1, r2, show i + 1 + j = i + (j + 1) by omega], by simpa using r3, r4, r5, r6⟩
theorem mapOf_read (hI : Inv T base c σ w) {kt vt : TypeId} {x : AV} {y : Value} {es : List (AV × AV)} (h : @mapOf ⟨σ⟩ kt vt x = some es) (hr : RepT T c x y) :
    (x = .nilm ∧ y = .map none ∧ es = []) ∨ ∃ id ents clock, x = .map id ∧ y = .map (some (c.μ id)) ∧ σ.obj id = some (.map kt vt es) ∧ w.heap[c.μ id]? = some (.map ents clock) ∧ ents.toList.length = es.length ∧ ∀ (j : Nat) a b, es[j]? = some a → ents.toList[j]? = some b → EntRep T c kt vt a b := by
  unfold mapOf at h
  split at h
  · simp only [Option.some.injEq] at h
    exact .inl ⟨rfl, rep_nilm hr, h.symm⟩
  · rename_i id
    split at h
    · rename_i k v es' ho
      split at h
      · rename_i hc
        obtain ⟨rfl, rfl⟩ := hc
        simp only [Option.some.injEq] at h
        subst h
        obtain ⟨rfl, hid⟩ := rep_map hr
        obtain ⟨_, _, _, ents, clock, h1, h2, h3⟩ := hI.obj id _ ho
        exact .inr ⟨id, ents, clock, rfl, rfl, ho, h1, by simpa using h2, fun j a b ha hb => h3 j a b ha (by simpa using hb)⟩
      · cases h
    · cases h
  · cases h
theorem sd_lookup (hT : TabOk P T) (hI : Inv T base c σ w) {t : TypeId} {x k r : AV} {y z : Value} {ok : Bool} (h : @aLookup T ⟨σ⟩ t x k ok = some r) (hx : RepT T c x y) (hk : RepT T c k z) :
    ∃ v, (Instr.lookup t y z ok).run P w = .ok v w ∧ RepT T c r v := by
  unfold aLookup at h
  split at h
  · rename_i kt vt ht
    split at h
    · rename_i hvt
      obtain ⟨dv, hdv⟩ := Option.isSome_iff_exists.1 hvt
      obtain ⟨d, hd, h⟩ := Option.bind_eq_some_iff.1 h
      obtain ⟨es, he, h⟩ := Option.bind_eq_some_iff.1 h
      obtain ⟨q, hq, h⟩ := Option.map_eq_some_iff.1 h
      obtain ⟨hkt, hfit, D, hu, hD, hkey⟩ := key_of hT hd hk
      obtain ⟨M, hm, hMrun, hM⟩ := run_under hT w ht
      obtain rfl := desc_map hM
      obtain ⟨zv, hz, hzr⟩ := zero_rep (c := c) (w := w) hT hdv
      have hz1 : Rep1 T c (T.zero vt) zv := by
        obtain ⟨i, z', h1, h2, h3, h4, h5, h6, h7⟩ := hT.info vt dv hdv
        have : zv = z' := by simpa [zeroValue, typeInfo, h1, h5] using hz.symm
        subst this
        exact ⟨dv, h6 c, h7⟩
      have fin : ∀ (u : AV) (v : Value) (b : Bool), Rep1 T c u v → RepT T c (if ok = true then .tup [u, .bool b] else u) (if ok = true then .tuple #[v, .bool b] else v) := by
        intro u v b hu
        cases ok
        · simpa using hu.toT
        · refine ⟨[v, .bool b], rfl, rfl, fun i p s hp hs => ?_⟩
          match i with
          | 0 => simp only [List.getElem?_cons_zero, Option.some.injEq] at hp hs; subst hp hs; exact hu
          | 1 => simp only [List.getElem?_cons_succ, List.getElem?_cons_zero, Option.some.injEq] at hp hs; subst hp hs; exact ⟨_, .bool c b, rfl⟩
          | i + 2 => simp at hp
      rcases mapOf_read hI he hx with ⟨rfl, rfl, rfl⟩ | ⟨id, ents, clock, rfl, rfl, ho, hb, hl, hent⟩
      · simp only [findAV, Option.some.injEq] at hq
        subst hq
        subst h
        refine ⟨_, ?_, fin _ zv false hz1⟩
        have hf : (Instr.findKey kt z []).run P w = .ok none w := run_findKey hu rfl
        cases ok <;> simp [Instr.lookup, hMrun, run_checkKey hu hkey, hf, hz, Result.andThen]
      · rcases find_now hD hk es ents.toList 0 hl hent hq with ⟨rfl, hf⟩ | ⟨j, u, v, e, rfl, hf, _, _, _, hrep⟩
        · subst h
          refine ⟨_, ?_, fin _ zv false hz1⟩
          cases ok <;> simp [Instr.lookup, hMrun, Go.MapKept.run_getObj_map hb, run_checkKey hu hkey, run_findKey hu hf, hz, Result.andThen]
        · subst h
          refine ⟨_, ?_, fin _ v true hrep⟩
          cases ok <;> simp [Instr.lookup, hMrun, Go.MapKept.run_getObj_map hb, run_checkKey hu hkey, run_findKey hu hf, Result.andThen]
    · cases h
  · cases h
theorem Below.putMap {B b : Nat} (hb : B ≤ b) (o : Obj) : Below B w { w with heap := w.heap.setIfInBounds b o } :=
  ⟨rfl, rfl, rfl, by simp, fun k hk => by simp only [Array.getElem?_setIfInBounds]; rw [if_neg (by omega)]⟩
theorem Inv.setMap (hI : Inv T base c σ w) {id : Nat} {kt vt : TypeId} {es es' : List (AV × AV)} {ents ents' : Array MapEntry} {clock clock' : Nat} (ho : σ.obj id = some (.map kt vt es)) (hb : w.heap[c.μ id]? = some (.map ents clock)) (hl : ents'.size = es'.length)
    (he : ∀ (j : Nat) a b, es'[j]? = some a → ents'[j]? = some b → EntRep T c kt vt a b) :
    Fwd base c c w { w with heap := w.heap.setIfInBounds (c.μ id) (.map ents' clock') } ∧ Inv T base c (σ.set id (.map kt vt es')) { w with heap := w.heap.setIfInBounds (c.μ id) (.map ents' clock') } := by
  obtain ⟨h1, h2⟩ := heap_set (o' := .map ents' clock') hb
  exact ⟨⟨.refl c, Below.putMap (hI.obj id _ ho).2.1 _, fun _ _ _ => rfl, fun _ _ => rfl⟩, hI.set ho (fun b hne => h2 b hne) (by simp) h1 ⟨ents', clock', rfl, hl, he⟩⟩
theorem sd_mapPut (hT : TabOk P T) (hI : Inv T base c σ w) {t : TypeId} {x k v : AV} {y z u : Value} {σ' : St} (h : @aMapPut T ⟨σ⟩ t x k v = some σ') (hx : RepT T c x y) (hk : RepT T c k z) (hv : RepT T c v u) :
    ∃ w', (Instr.mapUpdate t y z u).run P w = .ok () w' ∧ Fwd base c c w w' ∧ Inv T base c σ' w' := by
  unfold aMapPut at h
  split at h
  · rename_i kt vt id ht
    obtain ⟨d, hd, h⟩ := Option.bind_eq_some_iff.1 h
    split at h
    · rename_i hfv
      obtain ⟨es, he, h⟩ := Option.bind_eq_some_iff.1 h
      obtain ⟨q, hq, h⟩ := Option.map_eq_some_iff.1 h
      subst h
      obtain ⟨hkt, hfit, D, hu, hD, hkey⟩ := key_of hT hd hk
      obtain ⟨M, hm, hMrun, hM⟩ := run_under hT w ht
      obtain rfl := desc_map hM
      obtain ⟨dk, hdk, hkv, hka⟩ := hk.fit hfit
      obtain ⟨dv, hdv, hvv, hva⟩ := hv.fit hfv
      have hnew : ∀ born, EntRep T c kt vt (k, v) { key := z, val := u, born := born } := fun born => ⟨⟨dk, hdk, hkv, hka⟩, dv, hdv, hvv, hva⟩
      rcases mapOf_read hI he hx with ⟨h0, _, _⟩ | ⟨id', ents, clock, hid, rfl, ho, hb, hl, hent⟩
      · cases h0
      · cases hid
        rcases find_now hD hk es ents.toList 0 hl hent hq with ⟨rfl, hf⟩ | ⟨j, u', v', e, rfl, hf, hj, hek, _, hrep⟩
        · obtain ⟨f1, f2⟩ := hI.setMap (ents' := ents.push { key := z, val := u, born := clock }) (clock' := clock + 1) (es' := es ++ [(k, v)]) ho hb (by simpa using hl) (fun j a b ha hb' => by
            by_cases hj : j < es.length
            · rw [List.getElem?_append_left hj] at ha
              rw [Array.getElem?_push, if_neg (by simp at hl; omega)] at hb'
              exact hent j a b ha (by simpa using hb')
            · rw [List.getElem?_append_right (by omega)] at ha
              have hj' : j = es.length := by
                have := (List.getElem?_eq_some_iff.1 ha).1
                simp at this; omega
              subst hj'
              simp only [Nat.sub_self, List.getElem?_cons_zero, Option.some.injEq] at ha
              subst ha
              rw [Array.getElem?_push, if_pos (by simpa using hl.symm)] at hb'
              cases hb'
              exact hnew _)
          refine ⟨_, ?_, f1, f2⟩
          simp [Instr.mapUpdate, hMrun, Go.MapKept.run_getObj_map hb, run_checkKey hu hkey, run_findKey hu hf, run_setObj_map _ hb, Result.andThen]
        · have hj' : ents[j]? = some e := by simpa using hj
          rw [Nat.zero_add] at hf
          obtain ⟨f1, f2⟩ := hI.setMap (ents' := ents.modify j fun e => { e with key := z, val := u }) (clock' := clock) (es' := es.set (0 + j) (k, v)) ho hb (by simpa using hl) (fun i a b ha hb' => by
            rw [Nat.zero_add] at ha
            rw [Array.getElem?_modify] at hb'
            by_cases hij : j = i
            · subst hij
              rw [if_pos rfl, hj'] at hb'
              cases hb'
              rw [List.getElem?_set_self (by have := (Array.getElem?_eq_some_iff.1 hj').1; simp at hl; omega)] at ha
              cases ha
              exact hnew _
            · rw [if_neg hij] at hb'
              rw [List.getElem?_set_ne hij] at ha
              exact hent i a b ha (by simpa using hb'))
          refine ⟨_, ?_, f1, f2⟩
          simp [Instr.mapUpdate, hMrun, Go.MapKept.run_getObj_map hb, run_checkKey hu hkey, run_findKey hu hf, hj', hek, run_keyThatStays hkey, run_setObj_map _ hb, Result.andThen]
    · cases h
  · cases h
theorem sd_mapDel (hT : TabOk P T) (hI : Inv T base c σ w) {t tk ty : TypeId} {x k : AV} {y z : Value} {σ' : St} (h : @aMapDel T ⟨σ⟩ t x k = some σ') (hx : RepT T c x y) (hk : RepT T c k z) :
    ∃ w', (Builtin.delete_ #[t, tk] ty #[y, z]).run P w = .ok (.tuple #[]) w' ∧ Fwd base c c w w' ∧ Inv T base c σ' w' := by
  unfold aMapDel at h
  split at h
  · rename_i kt vt id ht
    obtain ⟨d, hd, h⟩ := Option.bind_eq_some_iff.1 h
    obtain ⟨es, he, h⟩ := Option.bind_eq_some_iff.1 h
    obtain ⟨q, hq, h⟩ := Option.map_eq_some_iff.1 h
    subst h
    obtain ⟨hkt, hfit, D, hu, hD, hkey⟩ := key_of hT hd hk
    obtain ⟨M, hm, hMrun, hM⟩ := run_under hT w ht
    obtain rfl := desc_map hM
    rcases mapOf_read hI he hx with ⟨h0, _, _⟩ | ⟨id', ents, clock, hid, rfl, ho, hb, hl, hent⟩
    · cases h0
    · cases hid
      rcases find_now hD hk es ents.toList 0 hl hent hq with ⟨rfl, hf⟩ | ⟨j, u', v', e, rfl, hf, hj, hek, _, hrep⟩
      · obtain ⟨f1, f2⟩ := hI.setMap (ents' := ents) (clock' := clock) (es' := es) ho hb (by simpa using hl) (fun j a b ha hb' => hent j a b ha (by simpa using hb'))
        refine ⟨_, ?_, f1, f2⟩
        simp [Builtin.delete_, hMrun, Go.MapKept.run_getObj_map hb, run_checkKey hu hkey, run_findKey hu hf, run_setObj_map _ hb, Result.andThen]
      · have hlt : j < ents.size := by simpa using (List.getElem?_eq_some_iff.1 hj).1
        rw [Nat.zero_add] at hf
        have hlist : (ents.eraseIdxIfInBounds j).toList = ents.toList.eraseIdx j := by
          unfold Array.eraseIdxIfInBounds
          rw [dif_pos hlt, Array.toList_eraseIdx]
        have hsz : (ents.eraseIdxIfInBounds j).size = (es.eraseIdx j).length := by
          rw [← Array.length_toList, hlist, List.length_eraseIdx_of_lt (by simpa using hlt), List.length_eraseIdx_of_lt (by simp at hl; omega), hl]
        obtain ⟨f1, f2⟩ := hI.setMap (ents' := ents.eraseIdxIfInBounds j) (clock' := clock) (es' := es.eraseIdx (0 + j)) ho hb (by rw [Nat.zero_add]; exact hsz) (fun i a b ha hb' => by
          rw [Nat.zero_add] at ha
          rw [← Array.getElem?_toList, hlist] at hb'
          rw [List.getElem?_eraseIdx] at ha hb'
          by_cases hij : i < j
          · rw [if_pos hij] at ha hb'; exact hent i a b ha hb'
          · rw [if_neg hij] at ha hb'; exact hent (i + 1) a b ha hb')
        refine ⟨_, ?_, f1, f2⟩
        simp [Builtin.delete_, hMrun, Go.MapKept.run_getObj_map hb, run_checkKey hu hkey, run_findKey hu hf, run_setObj_map _ hb, Result.andThen]
  · cases h
theorem sd_mapClear (hT : TabOk P T) (hI : Inv T base c σ w) {t ty : TypeId} {x : AV} {y : Value} {σ' : St} (h : @aMapClear T ⟨σ⟩ t x = some σ') (hx : RepT T c x y) :
    ∃ w', (Builtin.clear_ #[t] ty #[y]).run P w = .ok (.tuple #[]) w' ∧ Fwd base c c w w' ∧ Inv T base c σ' w' := by
  unfold aMapClear at h
  split at h
  · rename_i kt vt id ht
    obtain ⟨es, he, h⟩ := Option.map_eq_some_iff.1 h
    subst h
    obtain ⟨M, hm, hMrun, hM⟩ := run_under hT w ht
    obtain rfl := desc_map hM
    rcases mapOf_read hI he hx with ⟨h0, _, _⟩ | ⟨id', ents, clock, hid, rfl, ho, hb, hl, hent⟩
    · cases h0
    · cases hid
      obtain ⟨f1, f2⟩ := hI.setMap (ents' := #[]) (clock' := clock) (es' := []) ho hb rfl (fun j a b ha hb' => by simp at ha)
      refine ⟨_, ?_, f1, f2⟩
      simp [Builtin.clear_, hMrun, Go.MapKept.run_getObj_map hb, run_setObj_map _ hb, Result.andThen]
  · cases h
theorem sd_makeMap (hT : TabOk P T) (hI : Inv T base c σ w) {t kt vt : TypeId} (ht : T.ty t = some (.map kt vt)) :
    ∃ c' y w', (Instr.makeMap t none).run P w = .ok y w' ∧ Fwd base c c' w w' ∧ Inv T base c' (σ.new (.map kt vt [])) w' ∧ RepT T c' (.map σ.next) y := by
  have hI' := hI.new (.map kt vt []) t (.map #[] 0) ⟨#[], 0, rfl, rfl, fun i x y hx => by simp at hx⟩
  refine ⟨c.newObj t w.heap.size, .map (some w.heap.size), w.alloc (.map #[] 0), by simp [Instr.makeMap, Result.andThen], ⟨Ext.newObj c t _, (Below.refl _ _).alloc hI.le _, fun _ _ _ => rfl, fun _ _ => rfl⟩, hI', ?_⟩
  have hm : (c.newObj t w.heap.size).μ σ.next = w.heap.size := by rw [← hI.next]; exact if_pos rfl
  have := RepV.map (T := T) (c.newObj t w.heap.size) kt vt σ.next (by rw [← hI.next]; exact Nat.lt_succ_self _)
  rw [hm] at this
  exact ⟨_, this, rfl⟩
end
end Go.Proofs.Yticlihmbikcohaa.Va
