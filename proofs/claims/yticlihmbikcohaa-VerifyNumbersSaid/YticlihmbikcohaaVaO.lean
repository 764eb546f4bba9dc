/- the operations that turn no memory: what the machine does is what the interpreter says -/
import Derived.Test.YticlihmbikcohaaVaM
namespace Go.Proofs.Yticlihmbikcohaa.Va
open Go Go.RowKit
set_option linter.unusedVariables false
set_option linter.unusedSimpArgs false

theorem loc_append {T : Tab} {e : TypeId} {p : List Nat} {o : Nat} {t : TypeId} (h : T.loc e p = some (o, t)) (q : List Nat) : T.loc e (p ++ q) = (T.sub t q).map fun x => (o + x.1, x.2) := by
  have sub_append : ∀ (p : List Nat) (t : TypeId) (o : Nat) (u : TypeId), T.sub t p = some (o, u) → T.sub t (p ++ q) = (T.sub u q).map fun x => (o + x.1, x.2) := by
    intro p
    induction p with
    | nil =>
      intro t o u h
      simp only [Tab.sub, Option.some.injEq, Prod.mk.injEq] at h
      obtain ⟨rfl, rfl⟩ := h
      simp only [List.nil_append, Nat.zero_add]
      cases T.sub t q <;> rfl
    | cons i p ih =>
      intro t o u h
      simp only [Tab.sub, List.cons_append] at h ⊢
      split at h
      · split at h
        · rename_i fs _ ft hf
          cases hs : T.sub ft p with
          | none => rw [hs] at h; cases h
          | some x =>
            rw [hs] at h
            simp only [Option.map_some, Option.some.injEq, Prod.mk.injEq] at h
            obtain ⟨rfl, rfl⟩ := h
            rw [ih ft x.1 x.2 (by rw [hs])]
            cases T.sub x.2 q <;> simp [Nat.add_assoc]
        · cases h
      · rename_i n e' _
        cases hs : T.sub e' p with
        | none => rw [hs] at h; cases h
        | some x =>
          rw [hs] at h
          simp only [Option.map_some, Option.some.injEq, Prod.mk.injEq] at h
          obtain ⟨rfl, rfl⟩ := h
          rw [ih e' x.1 x.2 (by rw [hs])]
          cases T.sub x.2 q <;> simp [Nat.add_assoc]
      · cases h
  cases p with
  | nil => simp [Tab.loc] at h
  | cons i p =>
    simp only [Tab.loc, List.cons_append] at h ⊢
    cases hs : T.sub e p with
    | none => rw [hs] at h; cases h
    | some x =>
      rw [hs] at h
      simp only [Option.map_some, Option.some.injEq, Prod.mk.injEq] at h
      obtain ⟨rfl, rfl⟩ := h
      rw [sub_append p e x.1 x.2 (by rw [hs])]
      cases T.sub x.2 q <;> simp [Nat.add_assoc]
theorem sub_field {T : Tab} {t : TypeId} {fs : List TypeId} {i : Nat} {ft : TypeId} (ht : T.ty t = some (.struct fs)) (hi : fs[i]? = some ft) : T.sub t [i] = some (T.sum (fs.take i), ft) := by simp [Tab.sub, ht, hi]
theorem sub_elem {T : Tab} {t : TypeId} {n : Nat} {e : TypeId} (ht : T.ty t = some (.array n e)) (i : Nat) : T.sub t [i] = some (i * T.size e, e) := by simp [Tab.sub, ht]
theorem rowLoc_at {T : Tab} {e u : TypeId} {p : List Nat} {o : Nat} (h : T.rowLoc e p = some (o, u)) : (∃ d, T.ty u = some d) ∧ ∀ j, T.loc e (p ++ [j]) = some (o + j * T.size u, u) := by
  unfold Tab.rowLoc at h
  split at h
  · split at h
    · rename_i hs
      simp only [Option.some.injEq, Prod.mk.injEq] at h
      obtain ⟨rfl, rfl⟩ := h
      exact ⟨Option.isSome_iff_exists.1 hs, fun j => by simp [Tab.loc, Tab.sub]⟩
    · cases h
  · split at h
    · rename_i o0 t0 h0
      split at h
      · rename_i n e0 ht0
        split at h
        · rename_i hs
          simp only [Option.some.injEq, Prod.mk.injEq] at h
          obtain ⟨rfl, rfl⟩ := h
          exact ⟨Option.isSome_iff_exists.1 hs, fun j => by rw [loc_append h0, sub_elem ht0]; rfl⟩
        · cases h
      · cases h
    · cases h
section
variable {P : Program} {T : Tab} {c : Cx}
theorem desc_struct {fs : List TypeId} {D : TypeDesc} (h : DescOk T (.struct fs) D) : ∃ F, D = .struct F ∧ F.size = fs.length ∧ ∀ (i : Nat) (f : Field), F[i]? = some f → fs[i]? = some f.type ∧ f.offset = T.sum (fs.take i) := by
  cases D <;> first | exact h.elim | exact ⟨_, rfl, h⟩
theorem desc_array {n e : Nat} {D : TypeDesc} (h : DescOk T (.array n e) D) : D = .array n e := by
  cases D <;> first | exact h.elim | (obtain ⟨rfl, rfl⟩ := h; rfl)
theorem desc_slice {e : Nat} {D : TypeDesc} (h : DescOk T (.slice e) D) : D = .slice e := by
  cases D <;> first | exact h.elim | (subst h; rfl)
theorem desc_str {D : TypeDesc} (h : DescOk T .str D) : D = .string := by
  cases D <;> first | exact h.elim | rfl
theorem desc_bool {D : TypeDesc} (h : DescOk T .bool D) : D = .bool := by
  cases D <;> first | exact h.elim | rfl
theorem desc_int {k : IntKind} {D : TypeDesc} (h : DescOk T (.int k) D) : D = .int k := by
  cases D <;> first | exact h.elim | (subst h; rfl)
theorem desc_map {k v : TypeId} {D : TypeDesc} (h : DescOk T (.map k v) D) : D = .map k v := by
  cases D <;> first | exact h.elim | (obtain ⟨rfl, rfl⟩ := h; rfl)
theorem desc_ptr {D : TypeDesc} (h : DescOk T .ptr D) : ∃ e, D = .pointer e := by
  cases D <;> first | exact h.elim | exact ⟨_, rfl⟩
theorem desc_func {D : TypeDesc} (h : DescOk T .func D) : ∃ a b v, D = .func a b v := by
  cases D <;> first | exact h.elim | exact ⟨_, _, _, rfl⟩
theorem field_of {fs : List TypeId} {F : Array Field} (hs : F.size = fs.length) (hf : ∀ (i : Nat) (f : Field), F[i]? = some f → fs[i]? = some f.type ∧ f.offset = T.sum (fs.take i)) {i : Nat} {ft : TypeId} (hi : fs[i]? = some ft) :
    ∃ f, F[i]? = some f ∧ f.type = ft ∧ f.offset = T.sum (fs.take i) := by
  have hlt : i < F.size := by rw [hs]; exact (List.getElem?_eq_some_iff.1 hi).1
  obtain ⟨h1, h2⟩ := hf i F[i] (Array.getElem?_eq_getElem hlt)
  exact ⟨F[i], Array.getElem?_eq_getElem hlt, by rw [hi] at h1; simpa using h1.symm, h2⟩
variable (hT : TabOk P T) (w : World)
include hT
theorem ty_field {t : TypeId} {fs : List TypeId} (ht : T.ty t = some (.struct fs)) {i : Nat} {ft : TypeId} (hi : fs[i]? = some ft) : ∃ d, T.ty ft = some d := hT.sub t _ fs ht rfl ft (List.mem_of_getElem? hi)
theorem sd_fieldAddr {t : TypeId} {v u : AV} {i : Nat} {x : Value} (h : aFieldAddr T t v i = some u) (hr : RepT T c v x) : ∃ y, (Instr.fieldAt t x i).run P w = .ok y w ∧ RepT T c u y := by
  unfold aFieldAddr at h
  split at h
  · rename_i fs ht
    split at h
    · rename_i ft hft
      split at h
      · cases h
      · rename_i hsz
        obtain ⟨D, hu, hrun, hd⟩ := run_under hT w ht
        obtain ⟨F, rfl, hFs, hF⟩ := desc_struct hd
        obtain ⟨f, hf, hft', hoff⟩ := field_of hFs hF hft
        obtain ⟨dft, hdft⟩ := ty_field hT ht hft
        have hsize := run_size hT w (t := ft) hdft
        have key : ∀ b o, (Instr.fieldAt t (.pointer (some ⟨b, o, none⟩)) i).run P w = .ok (.pointer (some ⟨b, o + T.sum (fs.take i), none⟩)) w := by
          intro b o
          simp [Instr.fieldAt, Sem.run_bind, hrun, hf, Instr.sureAddr, fieldPlace, hft', hsize, hsz, hoff, Addr.add_lit]
        split at h
        · rename_i s id p
          split at h
          · rename_i hs
            simp only [Option.some.injEq] at h
            subst h
            obtain ⟨o, rfl, hi, hl⟩ := rep_ptr hr
            refine ⟨_, key _ _, _, .ptr c ft id _ _ hi ?_, rfl⟩
            rw [loc_append hl, sub_field ((same_ty hs).trans ht) hft]; rfl
          · cases h
        · rename_i s s' vs
          split at h
          · rename_i hs
            cases hv : vs[i]? with
            | none => rw [hv] at h; cases h
            | some v' =>
              rw [hv] at h
              simp only [Option.map_some, Option.some.injEq] at h
              subst h
              obtain ⟨b, o, d, cs, rfl, hsd, hrv, hFc⟩ := rep_fptr hr
              have hd' : d = .struct fs := by rw [same_ty hs, ht] at hsd; exact (Option.some.inj hsd).symm
              subst hd'
              cases hrv with
              | agg _ _ _ ts _ _ hts hcomp hL =>
                obtain rfl : fs = ts := by simpa [Tab.comps] using hcomp
                obtain ⟨t1, d1, us, A, B, h1, h2, h3, rfl, h5, _⟩ := hL.nth hT.sz i hv
                rw [hft] at h1
                obtain rfl := Option.some.inj h1
                refine ⟨_, key _ _, _, .fptr c ft d1 v' us b _ h2 h3 (fun j u hj => ?_), rfl⟩
                rw [← h5, Nat.add_assoc]
                refine hFc _ _ ?_
                rw [List.getElem?_append_right (by omega), show A.length + j - A.length = j by omega, List.getElem?_append_left (List.getElem?_eq_some_iff.1 hj).1, hj]
          · cases h
        · cases h
    · cases h
  · cases h
omit hT in
theorem extract_mid {A us B : List Value} {cs : Array Value} (h : cs.toList = A ++ (us ++ B)) : (cs.extract A.length (A.length + us.length)).toList = us := by
  rw [Array.toList_extract, h]
  simp [List.extract_eq_take_drop]
theorem run_part {t : TypeId} {d : Ty} {v : AV} {us A B : List Value} {cs : Array Value} (ht : T.ty t = some d) (hr : RepV T c d v us) (h : cs.toList = A ++ (us ++ B)) : ∃ y, (part t cs A.length).run P w = .ok y w ∧ Rep1 T c v y := by
  have ha := run_isAgg hT w ht
  have hv := RepV.aggOf ht hr
  have hl := hr.len hT.sz
  rw [← hT.sz t d ht] at hl
  cases hg : T.agg t with
  | true =>
    refine ⟨.agg us.toArray, ?_, hr.agg1 (hv.trans hg)⟩
    have he := extract_mid h
    rw [hl] at he
    have he' : cs.extract A.length (A.length + T.size t) = us.toArray := by rw [← he]
    simp [part, Sem.run_bind, ha, hg, run_size hT w ht, he']
  | false =>
    obtain ⟨u, rfl⟩ : ∃ u, us = [u] := by
      cases hr with
      | agg _ _ _ ts _ _ _ hd _ => rw [hg] at hv; cases hv
      | _ => exact ⟨_, rfl⟩
    refine ⟨u, ?_, hr.one1 (hv.trans hg)⟩
    have hc : cs[A.length]? = some u := by rw [← Array.getElem?_toList, h]; simp
    simp [part, Sem.run_bind, ha, hg, hc]
theorem sd_field {t : TypeId} {v u : AV} {i : Nat} {x : Value} (h : aField T t v i = some u) (hr : RepT T c v x) : ∃ y, (Instr.field t x i).run P w = .ok y w ∧ RepT T c u y := by
  unfold aField at h
  split at h
  · rename_i s vs
    split at h
    · rename_i hs
      split at h
      · rename_i fs ht
        obtain ⟨d, ts, cs, rfl, hsd, hcomp, hL⟩ := rep_agg hr
        have hd' : d = .struct fs := by rw [same_ty hs, ht] at hsd; exact (Option.some.inj hsd).symm
        subst hd'
        obtain rfl : fs = ts := by simpa [Tab.comps] using hcomp
        obtain ⟨t1, d1, us, A, B, h1, h2, h3, h4, h5, _⟩ := hL.nth hT.sz i h
        obtain ⟨D, hu, hrun, hd⟩ := run_under hT w ht
        obtain ⟨F, rfl, hFs, hF⟩ := desc_struct hd
        obtain ⟨f, hf, rfl, hoff⟩ := field_of hFs hF h1
        obtain ⟨y, hy, hry⟩ := run_part hT w h2 h3 h4
        refine ⟨y, ?_, hry.toT⟩
        simp [Instr.field, Sem.run_bind, hrun, hf, asAgg, hoff, ← h5, hy]
      · cases h
    · cases h
  · cases h
omit hT in
theorem sd_nilCheck {v u : AV} {x : Value} {ρ : Operand → Value} {o : Oper} {op : Operand} (ho : o.op = .nilCheck op) (hx : ρ op = x) (h : aNilCheck v = some u) (hr : RepT T c v x) : (execOp ρ o).run P w = .ok (.value x) w ∧ RepT T c u x := by
  unfold aNilCheck at h
  split at h
  · simp only [Option.some.injEq] at h; subst h
    obtain ⟨oo, rfl, _⟩ := rep_ptr hr
    exact ⟨by simp [execOp, ho, hx], hr⟩
  · simp only [Option.some.injEq] at h; subst h
    obtain ⟨b, oo, d, cs, rfl, _⟩ := rep_fptr hr
    exact ⟨by simp [execOp, ho, hx], hr⟩
  · simp only [Option.some.injEq] at h; subst h
    obtain ⟨ws, rfl, _⟩ := rep_func hr
    exact ⟨by simp [execOp, ho, hx], hr⟩
  · cases h
omit hT in
theorem nth_rep {e : TypeId} {xs : List AV} {cs : List Value} (hT : TabSz T) (h : RepL T c (List.replicate xs.length e) xs cs) {i : Nat} {v : AV} (hv : xs[i]? = some v) :
    ∃ d us, T.ty e = some d ∧ RepV T c d v us ∧ ∀ j u, us[j]? = some u → cs[i * T.size e + j]? = some u := by
  obtain ⟨t1, d1, us, A, B, h1, h2, h3, rfl, h5, _⟩ := h.nth hT i hv
  obtain ⟨hlt, rfl⟩ : i < xs.length ∧ e = t1 := by rw [List.getElem?_replicate] at h1; split at h1 <;> simp_all
  rw [List.take_replicate, sum_replicate, Nat.min_eq_left (Nat.le_of_lt hlt)] at h5
  refine ⟨d1, us, h2, h3, fun j u hj => ?_⟩
  rw [← h5, List.getElem?_append_right (by omega), show A.length + j - A.length = j by omega, List.getElem?_append_left (List.getElem?_eq_some_iff.1 hj).1, hj]
theorem sd_indexAddr {t : TypeId} {v iv u : AV} {x ix : Value} (h : aIndexAddr T t v iv = some u) (hr : RepT T c v x) (hi : RepT T c iv ix) : ∃ y, (Instr.indexAt t x ix).run P w = .ok y w ∧ RepT T c u y := by
  unfold aIndexAddr at h
  split at h
  · rename_i k n
    obtain rfl := rep_int hi
    split at h
    · rename_i e e' nn xs tok ht
      split at h
      · rename_i hc
        obtain ⟨rfl, h0, hn⟩ := hc
        cases hv : xs[n.toNat]? with
        | none => rw [hv] at h; cases h
        | some v' =>
          rw [hv] at h
          simp only [Option.map_some, Option.some.injEq] at h
          subst h
          obtain ⟨D, hu, hrun, hd⟩ := run_under hT w ht
          obtain rfl := desc_slice hd
          rcases rep_list hr with ⟨rfl, _⟩ | ⟨hne, _, cs, b, o, cap, rfl, hL, hF, hcap, _⟩
          · simp at hv
          · obtain ⟨d1, us, h2, h3, h4⟩ := nth_rep hT.sz hL hv
            have hsize := run_size hT w h2
            refine ⟨.pointer (some ⟨b, o + n.toNat * T.size e', none⟩), ?_, _, .fptr c e' d1 v' us b _ h2 h3 (fun j u hj => ?_), rfl⟩
            · simp [Instr.indexAt, Sem.run_bind, asIntOf, hrun, h0, hn, hsize, Addr.add_lit]
            · rw [Nat.add_assoc]; exact hF _ _ (h4 j u hj)
      · cases h
    · rename_i e e' id p off len ht
      split at h
      · rename_i hc
        obtain ⟨rfl, h0, hn⟩ := hc
        simp only [Option.some.injEq] at h
        subst h
        obtain ⟨D, hu, hrun, hd⟩ := run_under hT w ht
        obtain rfl := desc_slice hd
        obtain ⟨o, cap, rfl, hid, hl, hcap⟩ := rep_view hr
        obtain ⟨⟨de, hde⟩, hat⟩ := rowLoc_at hl
        have hsize := run_size hT w hde
        refine ⟨.pointer (some ⟨c.μ id, o + off * T.size e' + n.toNat * T.size e', none⟩), ?_, _, .ptr c e' id _ _ hid (by rw [hat, Nat.add_assoc, ← Nat.add_mul]), rfl⟩
        simp [Instr.indexAt, Sem.run_bind, asIntOf, hrun, h0, hn, hsize, Addr.add_lit]
      · cases h
    · rename_i m e s id p ht
      split at h
      · rename_i hc
        obtain ⟨hs, h0, hn⟩ := hc
        simp only [Option.some.injEq] at h
        subst h
        obtain ⟨D, hu, hrun, hd⟩ := run_under hT w ht
        obtain rfl := desc_array hd
        obtain ⟨o, rfl, hid, hl⟩ := rep_ptr hr
        obtain ⟨de, hde⟩ := hT.sub t _ _ ht rfl e (by simp; omega)
        have hsize := run_size hT w hde
        refine ⟨.pointer (some ⟨c.μ id, o + n.toNat * T.size e, none⟩), ?_, _, .ptr c e id _ _ hid (by rw [loc_append hl, sub_elem ((same_ty hs).trans ht)]; rfl), rfl⟩
        simp [Instr.indexAt, Sem.run_bind, asIntOf, hrun, h0, hn, hsize, Addr.add_lit, Instr.sureAddr]
      · cases h
    · rename_i m e s s' vs ht
      split at h
      · rename_i hc
        obtain ⟨hs, h0, hn⟩ := hc
        cases hv : vs[n.toNat]? with
        | none => rw [hv] at h; cases h
        | some v' =>
          rw [hv] at h
          simp only [Option.map_some, Option.some.injEq] at h
          subst h
          obtain ⟨D, hu, hrun, hd⟩ := run_under hT w ht
          obtain rfl := desc_array hd
          obtain ⟨b, o, d, cs, rfl, hsd, hrv, hFc⟩ := rep_fptr hr
          have hd' : d = .array m e := by rw [same_ty hs, ht] at hsd; exact (Option.some.inj hsd).symm
          subst hd'
          cases hrv with
          | agg _ _ _ ts _ _ hts hcomp hL =>
            obtain rfl : List.replicate m e = ts := by simpa [Tab.comps] using hcomp
            obtain ⟨t1, d1, us, A, B, h1, h2, h3, rfl, h5, _⟩ := hL.nth hT.sz _ hv
            obtain ⟨hlt, rfl⟩ : n.toNat < m ∧ e = t1 := by rw [List.getElem?_replicate] at h1; split at h1 <;> simp_all
            rw [List.take_replicate, sum_replicate, Nat.min_eq_left (Nat.le_of_lt hlt)] at h5
            have hsize := run_size hT w h2
            refine ⟨.pointer (some ⟨b, o + n.toNat * T.size e, none⟩), ?_, _, .fptr c e d1 v' us b _ h2 h3 (fun j u hj => ?_), rfl⟩
            · simp [Instr.indexAt, Sem.run_bind, asIntOf, hrun, h0, hn, hsize, Addr.add_lit, Instr.sureAddr]
            · rw [← h5, Nat.add_assoc]
              refine hFc _ _ ?_
              rw [List.getElem?_append_right (by omega), show A.length + j - A.length = j by omega, List.getElem?_append_left (List.getElem?_eq_some_iff.1 hj).1, hj]
      · cases h
    · cases h
  · cases h
end
end Go.Proofs.Yticlihmbikcohaa.Va
