/- the machine's operations that turn no memory, against the interpreter's -/
import Derived.Test.YticlihmbikcohaaVaR
import Derived.Laws.CopyRow
import Derived.KernelRfl
namespace Go.Proofs.Yticlihmbikcohaa.Va
open Go
set_option linter.unusedVariables false
set_option linter.unusedSimpArgs false

def vAgg : Value → Bool | .agg _ => true | _ => false
def DescOk (T : Tab) (d : Ty) (D : TypeDesc) : Prop :=
  match d, D with
  | .bool, .bool => True
  | .int k, .int k' => k = k'
  | .str, .string => True
  | .ptr, .pointer _ => True
  | .slice e, .slice e' => e = e'
  | .array n e, .array n' e' => n = n' ∧ e = e'
  | .struct fs, .struct F => F.size = fs.length ∧ ∀ (i : Nat) (f : Field), F[i]? = some f → fs[i]? = some f.type ∧ f.offset = T.sum (fs.take i)
  | .map k v, .map k' v' => k = k' ∧ v = v'
  | .func, .func .. => True
  | .iface, .interface _ => True
  | _, _ => False
/-- The table tells the program's types. -/
structure TabOk (P : Program) (T : Tab) : Prop where
  sz : TabSz T
  und : ∀ t d, T.ty t = some d → ∃ D, P.underlying t = some D ∧ DescOk T d D
  info : ∀ t d, T.ty t = some d → ∃ i z, P.info? t = some i ∧ i.size = T.size t ∧ i.bytes = T.bytes t ∧ T.bytes t ≤ 1000000 ∧ i.zero = some z ∧ (∀ c, RepV T c d (T.zero t) z.cells.toList) ∧ vAgg z = aggA (T.zero t)
  sub : ∀ t d ts, T.ty t = some d → Tab.comps d = some ts → ∀ u ∈ ts, ∃ d', T.ty u = some d'
  elem : ∀ t e, T.ty t = some (.slice e) → ∃ d', T.ty e = some d'
  arr : ∀ t n e, T.ty t = some (.array n e) → ∃ d', T.ty e = some d'
  no : ∀ t, T.ty t = none → T.zero t = .undef
  eqs : ∀ t, T.eqT t = true → ∃ F, P.underlying t = some (.struct F) ∧ (∀ f ∈ F.toList, f.name ≠ "_") ∧ P.stoodInHeld t = false ∧ P.eqGuardType P.depth t = false

def Rep1 (T : Tab) (c : Cx) (v : AV) (x : Value) : Prop := ∃ d, RepV T c d v x.cells.toList ∧ vAgg x = aggA v
def RepT (T : Tab) (c : Cx) (v : AV) (x : Value) : Prop :=
  match v with
  | .undef => True
  | .tup vs => ∃ ws : List Value, x = .tuple ws.toArray ∧ ws.length = vs.length ∧ ∀ (i : Nat) v w, vs[i]? = some v → ws[i]? = some w → Rep1 T c v w
  | v => Rep1 T c v x
theorem Rep1.ext {T : Tab} {c c' : Cx} {v : AV} {x : Value} (h : Rep1 T c v x) (hx : Ext c c') : Rep1 T c' v x := let ⟨d, h1, h2⟩ := h; ⟨d, h1.ext hx, h2⟩
theorem RepT.ext {T : Tab} {c c' : Cx} {v : AV} {x : Value} (h : RepT T c v x) (hx : Ext c c') : RepT T c' v x := by
  cases v with
  | undef => trivial
  | tup vs => obtain ⟨ws, h1, h2, h3⟩ := h; exact ⟨ws, h1, h2, fun i v w hv hw => (h3 i v w hv hw).ext hx⟩
  | _ => exact Rep1.ext h hx
theorem cells_one {x : Value} (h : vAgg x = false) : x.cells.toList = [x] := by cases x <;> simp_all [vAgg, Value.cells]
theorem cells_agg {x : Value} (h : vAgg x = true) : x = .agg x.cells := by cases x <;> simp_all [vAgg, Value.cells]
theorem Rep1.toT {T : Tab} {c : Cx} {v : AV} {x : Value} (h : Rep1 T c v x) : RepT T c v x := by
  obtain ⟨d, h, ha⟩ := h
  cases v with
  | undef => trivial
  | tup vs => generalize x.cells.toList = cs at h; cases h
  | _ => exact ⟨d, h, ha⟩
theorem RepV.one1 {T : Tab} {c : Cx} {d : Ty} {v : AV} {x : Value} (h : RepV T c d v [x]) (hv : aggA v = false) : Rep1 T c v x := by
  have hx : vAgg x = false := by have := h.one x (by simp); cases x <;> simp_all [vAgg, Value.oneCell']
  exact ⟨d, by rw [cells_one hx]; exact h, by rw [hx, hv]⟩
theorem RepV.agg1 {T : Tab} {c : Cx} {d : Ty} {v : AV} {cs : List Value} (h : RepV T c d v cs) (hv : aggA v = true) : Rep1 T c v (.agg cs.toArray) := ⟨d, by simpa [Value.cells] using h, by rw [hv]; rfl⟩
section
variable {T : Tab} {c : Cx} {x : Value}
theorem rep_int {k : IntKind} {n : Int} (h : RepT T c (.int k n) x) : x = .int k n := by
  obtain ⟨d, h, ha⟩ := h
  rw [cells_one ha] at h
  cases h; rfl
theorem rep_bool {b : Bool} (h : RepT T c (.bool b) x) : x = .bool b := by
  obtain ⟨d, h, ha⟩ := h
  rw [cells_one ha] at h
  cases h; rfl
theorem rep_str {s : ByteArray} (h : RepT T c (.str s) x) : x = .string s := by
  obtain ⟨d, h, ha⟩ := h
  rw [cells_one ha] at h
  cases h; rfl
theorem rep_nilp (h : RepT T c .nilp x) : x = .pointer none := by
  obtain ⟨d, h, ha⟩ := h
  rw [cells_one ha] at h
  cases h; rfl
theorem rep_nilf (h : RepT T c .nilf x) : x = .nilFunc := by
  obtain ⟨d, h, ha⟩ := h
  rw [cells_one ha] at h
  cases h; rfl
theorem rep_nilm (h : RepT T c .nilm x) : x = .map none := by
  obtain ⟨d, h, ha⟩ := h
  rw [cells_one ha] at h
  cases h; rfl
theorem rep_map {id : Nat} (h : RepT T c (.map id) x) : x = .map (some (c.μ id)) ∧ id < c.next := by
  obtain ⟨d, h, ha⟩ := h
  rw [cells_one ha] at h
  cases h with | map _ k v _ hi => exact ⟨rfl, hi⟩
theorem rep_ptr {t : TypeId} {id : Nat} {p : List Nat} (h : RepT T c (.ptr t id p) x) : ∃ o, x = .pointer (some ⟨c.μ id, o, none⟩) ∧ id < c.next ∧ T.loc (c.ε id) p = some (o, t) := by
  obtain ⟨d, h, ha⟩ := h
  rw [cells_one ha] at h
  cases h with | ptr _ _ _ _ o hi hl => exact ⟨o, rfl, hi, hl⟩
theorem rep_fptr {t : TypeId} {v : AV} (h : RepT T c (.fptr t v) x) : ∃ b o d cs, x = .pointer (some ⟨b, o, none⟩) ∧ T.ty t = some d ∧ RepV T c.closed d v cs ∧ ∀ (j : Nat) u, cs[j]? = some u → c.F b (o + j) = some u := by
  obtain ⟨d, h, ha⟩ := h
  rw [cells_one ha] at h
  cases h with | fptr _ _ d _ cs b o ht h hF => exact ⟨b, o, d, cs, rfl, ht, h, hF⟩
theorem rep_mt {b : Bool} (h : RepT T c (.mt b) x) : ∃ a, x = .slice a 0 0 ∧ (b = true ↔ a = none) := by
  obtain ⟨d, h, ha⟩ := h
  rw [cells_one ha] at h
  cases h with | mt _ e _ a h => exact ⟨a, rfl, h⟩
theorem rep_list {e : TypeId} {n : Bool} {xs : List AV} {tok : Option Nat} (h : RepT T c (.list e n xs tok) x) :
    (xs = [] ∧ ∃ a cap, x = .slice a 0 cap ∧ (n = true ↔ a = none) ∧ TokOk c tok a 0 cap e) ∨
    (xs ≠ [] ∧ n = false ∧ ∃ cs b o cap, x = .slice (some ⟨b, o, none⟩) xs.length cap ∧ RepL T c.closed (List.replicate xs.length e) xs cs ∧ (∀ (j : Nat) v, cs[j]? = some v → c.F b (o + j) = some v) ∧ xs.length ≤ cap ∧ TokOk c tok (some ⟨b, o, none⟩) xs.length cap e) := by
  obtain ⟨d, h, ha⟩ := h
  rw [cells_one ha] at h
  cases h with
  | list0 _ _ _ a cap _ h hk => exact .inl ⟨rfl, a, cap, rfl, h, hk⟩
  | list _ _ _ cs b o cap _ h hF hne hcap hk => exact .inr ⟨hne, rfl, cs, b, o, cap, rfl, h, hF, hcap, hk⟩
theorem rep_view {e : TypeId} {id : Nat} {p : List Nat} {off len : Nat} (h : RepT T c (.view e id p off len) x) :
    ∃ o cap, x = .slice (some ⟨c.μ id, o + off * T.size e, none⟩) len cap ∧ id < c.next ∧ T.rowLoc (c.ε id) p = some (o, e) ∧ len ≤ cap := by
  obtain ⟨d, h, ha⟩ := h
  rw [cells_one ha] at h
  cases h with | view _ _ _ _ _ _ o cap hi hl hcap => exact ⟨o, cap, rfl, hi, hl, hcap⟩
theorem rep_agg {t : TypeId} {vs : List AV} (h : RepT T c (.agg t vs) x) : ∃ d ts cs, x = .agg cs ∧ T.ty t = some d ∧ Tab.comps d = some ts ∧ RepL T c ts vs cs.toList := by
  obtain ⟨d, h, ha⟩ := h
  have hx := cells_agg ha
  generalize hg : x.cells = cs at h hx
  subst hx
  cases h with | agg _ _ _ ts _ _ ht hd h => exact ⟨d, ts, _, rfl, ht, hd, h⟩
theorem rep_func {f : FuncId} {caps : List AV} (h : RepT T c (.func f caps) x) : ∃ ws, x = .func (.func f) #[] ws.toArray ∧ RepC T c caps ws := by
  obtain ⟨d, h, ha⟩ := h
  rw [cells_one ha] at h
  cases h with | func _ _ _ ws h => exact ⟨ws, rfl, h⟩
theorem rep_tup {vs : List AV} (h : RepT T c (.tup vs) x) : ∃ ws : List Value, x = .tuple ws.toArray ∧ ws.length = vs.length ∧ ∀ (i : Nat) v w, vs[i]? = some v → ws[i]? = some w → Rep1 T c v w := h
theorem mk_int (k : IntKind) (n : Int) : RepT T c (.int k n) (.int k n) := ⟨_, .int c k n, rfl⟩
theorem mk_bool (b : Bool) : RepT T c (.bool b) (.bool b) := ⟨_, .bool c b, rfl⟩
theorem mk_str (s : ByteArray) : RepT T c (.str s) (.string s) := ⟨_, .str c s, rfl⟩
theorem mk_agg {t : TypeId} {vs : List AV} {d : Ty} {ts : List TypeId} {cs : Array Value} (ht : T.ty t = some d) (hd : Tab.comps d = some ts) (h : RepL T c ts vs cs.toList) : RepT T c (.agg t vs) (.agg cs) := ⟨d, .agg c t d ts vs _ ht hd h, rfl⟩
end
theorem rep_const {T : Tab} {c : Cx} (x : Value) : RepT T c (constAV x) x := by
  unfold constAV
  split
  · exact mk_bool _
  · exact mk_int _ _
  · exact mk_str _
  · exact ⟨_, .nilp c, rfl⟩
  · exact ⟨_, .mt c 0 true none (by simp), rfl⟩
  · exact ⟨_, .nilm c 0 0, rfl⟩
  · exact ⟨_, .nilf c, rfl⟩
  · exact ⟨_, .nili c, rfl⟩
  · trivial
/-- The program's own variables are as the list says. -/
def GlobOk (T : Tab) (c : Cx) : Prop := ∀ g : Nat, RepT T c.closed (globAV g) (.pointer (some ⟨g, 0, none⟩))
theorem GlobOk.F {T : Tab} {c c' : Cx} (h : GlobOk T c) (hF : ∀ b o v, c.F b o = some v → c'.F b o = some v) : GlobOk T c' := fun g => (h g).ext (.of_closed (c' := c'.closed) hF)
theorem GlobOk.ext {T : Tab} {c c' : Cx} (h : GlobOk T c) (hx : Ext c c') : GlobOk T c' := h.F hx.F
def RepEnv (T : Tab) (c : Cx) (ρ : Env) (a : Act) : Prop := (∀ i, RepT T c (ρ i) (a.tmps.getD i undef)) ∧ GlobOk T c
theorem RepEnv.val {T : Tab} {c : Cx} {ρ : Env} {a : Act} (h : RepEnv T c ρ a) (x : Operand) : RepT T c (val ρ x) (a.eval x) := by
  cases x with
  | tmp t => exact h.1 t
  | const v => exact rep_const v
  | global g => exact (h.2 g).ext (.of_closed fun _ _ _ h => h)
  | func f => exact ⟨_, .func c f [] [] (.nil c), rfl⟩

section
variable {P : Program} {T : Tab} (hT : TabOk P T) {c : Cx} (w : World)
include hT
theorem run_under {t : TypeId} {d : Ty} (h : T.ty t = some d) : ∃ D, P.underlying t = some D ∧ (underlying t).run P w = .ok D w ∧ DescOk T d D := by
  obtain ⟨D, h1, h2⟩ := hT.und t d h
  exact ⟨D, h1, run_underlying h1 w, h2⟩
theorem run_size {t : TypeId} {d : Ty} (h : T.ty t = some d) : (sizeOf t).run P w = .ok (T.size t) w := by
  obtain ⟨i, z, h1, h2, _⟩ := hT.info t d h
  simp [sizeOf, typeInfo, h1, h2]
theorem run_isAgg {t : TypeId} {d : Ty} (h : T.ty t = some d) : (Go.isAgg t).run P w = .ok (T.agg t) w := by
  obtain ⟨D, h1, h2, h3⟩ := run_under hT w h
  unfold Go.isAgg
  rw [Sem.run_bind, h2]
  simp only [Tab.agg, h]
  cases d <;> cases D <;> first | exact h3.elim | rfl
omit hT in
theorem RepV.aggOf {t : TypeId} {d : Ty} {v : AV} {cs : List Value} (h : T.ty t = some d) (hr : RepV T c d v cs) : aggA v = T.agg t := by
  simp only [Tab.agg, h]
  cases hr with
  | agg _ _ _ ts _ _ _ hd _ => cases d <;> first | (simp [Tab.comps] at hd; done) | rfl
  | _ => rfl
theorem run_load_at {t : TypeId} {d : Ty} {v : AV} {us : List Value} {b o : Nat} (h : T.ty t = some d) (hr : RepV T c d v us) (hc : ∀ j, j < us.length → w.cell? ⟨b, o + j, none⟩ = us[j]?) :
    ∃ x, (loadVar t ⟨b, o, none⟩).run P w = .ok x w ∧ Rep1 T c v x := by
  have ha := run_isAgg hT w h
  have hv := RepV.aggOf h hr
  have hl := hr.len hT.sz
  rw [← hT.sz t d h] at hl
  have hc' : ∀ j u, us[j]? = some u → w.cell? ((⟨b, o, none⟩ : Addr).add j) = some u := fun j u hj => by
    have hlt : j < us.length := (List.getElem?_eq_some_iff.1 hj).1
    rw [Addr.add_lit, hc j hlt, hj]
  cases hg : T.agg t with
  | true =>
    have hcs := run_loadCells_list (P := P) w ⟨b, o, none⟩ us hc'
    refine ⟨.agg us.toArray, ?_, hr.agg1 (hv.trans hg)⟩
    rw [← hl.symm] at *
    simp [loadVar, Sem.run_bind, ha, hg, run_size hT w h, ← hl, hcs]
  | false =>
    have h1 : us.length = 1 := by
      cases hr with
      | agg _ _ _ ts _ _ _ hd _ => rw [hg] at hv; cases hv
      | _ => rfl
    obtain ⟨u, rfl⟩ : ∃ u, us = [u] := by
      match us, h1 with
      | [u], _ => exact ⟨u, rfl⟩
    refine ⟨u, ?_, hr.one1 (hv.trans hg)⟩
    have hcu : w.cell? ⟨b, o, none⟩ = some u := hc 0 (by simp)
    simp [loadVar, Sem.run_bind, ha, hg, load, Sem.run, hcu]
end
end Go.Proofs.Yticlihmbikcohaa.Va
