/- more rules by which a walk of the abstract interpreter goes on: builtins, rows, slices -/
import Derived.Test.YticlihmbikcohaaVaS
namespace Go.Proofs.Yticlihmbikcohaa.Va
open Go
set_option linter.unusedVariables false
set_option linter.unusedSimpArgs false
section
/-- a joint whose value is looked at first -/
def bndN {α R : Type} (x : α) [k : Kt α R] : Option R := k.go x
@[go_sem] theorem bndN_go {α R : Type} (x : α) (k : α → Option R) : @bndN α R x ⟨k⟩ = k x := nr rfl
variable (T : Tab) (t : TypeId)
def normA (T : Tab) (d : Option Ty) (s : TypeId) (vs : List AV) : AV := match d with | some d => (match Tab.comps d with | some ts => .agg s (normL T ts vs) | none => .agg s vs) | none => .agg s vs
def normM (d : Option Ty) (b : Bool) : AV := match d with | some (.slice e) => .list e b [] none | _ => .mt b
@[go_sem] theorem normA_struct (fs : List TypeId) (s : TypeId) (vs : List AV) : normA T (some (.struct fs)) s vs = .agg s (normL T fs vs) := nr rfl
@[go_sem] theorem normA_array (n e : Nat) (s : TypeId) (vs : List AV) : normA T (some (.array n e)) s vs = .agg s (normL T (List.replicate n e) vs) := nr rfl
@[go_sem] theorem normM_slice (e : TypeId) (b : Bool) : normM (some (.slice e)) b = .list e b [] none := nr rfl
@[go_sem] theorem normT_agg (s : TypeId) (vs : List AV) : normT T t (.agg s vs) = normA T (T.ty t) s vs := by
  simp only [normT, normA]
  cases T.ty t with
  | none => rfl
  | some d => cases Tab.comps d <;> rfl
@[go_sem] theorem normT_mt (b : Bool) : normT T t (.mt b) = normM (T.ty t) b := by
  simp only [normT, normM]
  cases T.ty t with
  | none => rfl
  | some d => cases d <;> rfl
@[go_sem] theorem normT_list (e : TypeId) (n : Bool) (xs : List AV) (tok : Option Nat) : normT T t (.list e n xs tok) = .list e n xs (if fullT tok = true then tok else none) := by simp only [normT]
@[go_sem] theorem normT_int (k : IntKind) (n : Int) : normT T t (.int k n) = .int k n := by simp only [normT]
@[go_sem] theorem normT_bool (b : Bool) : normT T t (.bool b) = .bool b := by simp only [normT]
@[go_sem] theorem normT_str (b : ByteArray) : normT T t (.str b) = .str b := by simp only [normT]
@[go_sem] theorem normT_nilp : normT T t .nilp = .nilp := by simp only [normT]
@[go_sem] theorem normT_ptr (s : TypeId) (i : Nat) (p : List Nat) : normT T t (.ptr s i p) = .ptr s i p := by simp only [normT]
@[go_sem] theorem normT_fptr (s : TypeId) (v : AV) : normT T t (.fptr s v) = .fptr s v := by simp only [normT]
@[go_sem] theorem normT_func (f : FuncId) (c : List AV) : normT T t (.func f c) = .func f c := by simp only [normT]
@[go_sem] theorem normL_nil (ts : List TypeId) : normL T ts [] = [] := by cases ts <;> simp only [normL]
@[go_sem] theorem normL_cons (ts : List TypeId) (v : AV) (vs : List AV) : normL T (t :: ts) (v :: vs) = normT T t v :: normL T ts vs := by simp only [normL]
end
def elemT (T : Tab) (t : TypeId) : TypeId := match T.ty t with | some (.slice e) => e | _ => 0
def idxOk (n : Int) (len : Nat) : Bool := decide (0 ≤ n) && decide (n < len)
attribute [go_sem] elemT isSliceT isBoolT isPtrT isFuncT isMapT isRowT eqB
section
variable {R : Type} (C : Cfg) (f : FuncId) (q : Bool) (mr m : Mem) (dst : Option Tmp) (k : AV × St → Option R) (T : Tab) (t tx e e' : TypeId) (b n : Bool) (xs : List AV) (tok : Option Nat) (x s : AV) (i : Int) (kd : IntKind)
theorem ev_len : @bnd _ R (@evalBuiltin C f q mr m dst .len [t] [x]) ⟨k⟩ = @bnd _ R (@aLen C.T mr t x) ⟨fun v => k (v, m.st)⟩ := keep_bnd m.st k _
@[go_sem] theorem len_str (s : ByteArray) : @aLen T m t (.str s) = if T.ty t = some .str then some (.int .i64 s.size) else (match T.ty t with | some (.array n _) => some (.int .i64 n) | _ => none) := by
  unfold aLen; cases T.ty t with
  | none => rfl
  | some d => cases d <;> simp
@[go_sem] theorem len_mt : @aLen T m t (.mt b) = if isSliceT T t = true then some (.int .i64 0) else (match T.ty t with | some (.array n _) => some (.int .i64 n) | _ => none) := by
  unfold aLen isSliceT; cases T.ty t with
  | none => rfl
  | some d => cases d <;> simp
@[go_sem] theorem len_list : @aLen T m t (.list e n xs tok) = if isSliceT T t = true then some (.int .i64 xs.length) else (match T.ty t with | some (.array n _) => some (.int .i64 n) | _ => none) := by
  unfold aLen isSliceT; cases T.ty t with
  | none => rfl
  | some d => cases d <;> simp
@[go_sem] theorem len_view (id : Nat) (p : List Nat) (off len : Nat) : @aLen T m t (.view e id p off len) = if isSliceT T t = true then some (.int .i64 len) else (match T.ty t with | some (.array n _) => some (.int .i64 n) | _ => none) := by
  unfold aLen isSliceT; cases T.ty t with
  | none => rfl
  | some d => cases d <;> simp
theorem ev_append : @bnd _ R (@evalBuiltin C f false mr m dst .append [t, tx] [s, x]) ⟨k⟩ = @br R (isRowT C.T tx) ⟨@bnd _ R (match s with | .view .. => none | _ => @aAppend C.T mr m (rowD C f dst) t s x) ⟨k⟩⟩ ⟨none⟩ := by
  cases s <;> simp only [evalBuiltin, br, Lz.get] <;> cases isRowT C.T tx <;> simp [bnd]
theorem bind_bnd {α β : Type} (x : Option α) (g : α → Option β) (k : β → Option R) : @bnd _ R (x.bind g) ⟨k⟩ = @bnd _ R x ⟨fun a => @bnd _ R (g a) ⟨k⟩⟩ := by cases x <;> rfl
theorem if_bnd {α : Type} (c : Prop) [Decidable c] (x : Option α) (k : α → Option R) : @bnd _ R (if c then x else none) ⟨k⟩ = @br R (decide c) ⟨@bnd _ R x ⟨k⟩⟩ ⟨none⟩ := by
  by_cases h : c <;> simp [h, br, bnd]
theorem app_mt : @bnd _ R (@aAppend T mr m false t (.mt b) x) ⟨k⟩ = @br R (isSliceT T t) ⟨@bnd _ R (@newsOf T mr false (elemT T t) x) ⟨fun ys => @br R (roomy T (elemT T t) ys.length) ⟨k (.list (elemT T t) (b && ys.isEmpty) ys (some (m.st.ntok + 1)), m.st.tokNew none)⟩ ⟨none⟩⟩⟩ ⟨none⟩ := by
  unfold aAppend isSliceT elemT
  cases T.ty t with
  | none => rfl
  | some d =>
    cases d <;> first | rfl | (simp only [bind_bnd, Bool.false_eq_true, if_false, if_bnd, br_true]; congr; funext ys; cases roomy T _ ys.length <;> rfl)
theorem app_full : @bnd _ R (@aAppend T mr m false t (.list e b xs (some 0)) x) ⟨k⟩ = @br R (isSliceT T t && e == elemT T t) ⟨@bnd _ R (@newsOf T mr false (elemT T t) x) ⟨fun ys => @br R (roomy T (elemT T t) (xs.length + ys.length)) ⟨k (.list (elemT T t) (b && ys.isEmpty) (xs ++ ys) (some (m.st.ntok + 1)), m.st.tokNew none)⟩ ⟨none⟩⟩⟩ ⟨none⟩ := by
  unfold aAppend isSliceT elemT
  cases T.ty t with
  | none => rfl
  | some d =>
    cases d with
    | slice e' =>
      simp only [Bool.false_and, Bool.false_eq_true, if_false, bind_bnd, if_bnd, Bool.true_and]
      by_cases h : e = e'
      · subst h
        simp only [true_and, BEq.rfl, br_true]
        congr; funext ys; cases roomy T _ (xs.length + ys.length) <;> simp [bnd, br, Lz.get, Kt.go]
      · simp only [h, false_and, decide_false, beq_iff_eq, br_false, show (e == e') = false by simpa using h]
        cases @newsOf T mr false e' x <;> simp [bnd, br, Lz.get, Kt.go, h]
    | _ => rfl
theorem app_list (tk : Nat) : @bnd _ R (@aAppend T mr m false t (.list e b xs (some (tk + 1))) x) ⟨k⟩ = @br R (isSliceT T t && e == elemT T t) ⟨@br R (m.st.live tk) ⟨@bnd _ R (@newsOf T mr false (elemT T t) x) ⟨fun ys => @br R (roomy T (elemT T t) (xs.length + ys.length)) ⟨k (.list (elemT T t) (b && ys.isEmpty) (xs ++ ys) (some (m.st.ntok + 1)), m.st.tokNew (some tk))⟩ ⟨none⟩⟩⟩ ⟨none⟩⟩ ⟨none⟩ := by
  unfold aAppend isSliceT elemT
  cases T.ty t with
  | none => rfl
  | some d =>
    cases d with
    | slice e' =>
      simp only [bind_bnd, if_bnd, Bool.true_and]
      by_cases h : e = e'
      · subst h
        simp only [true_and, BEq.rfl, br_true]
        cases hl : m.st.live tk
        · simp only [Bool.false_eq_true, false_and, decide_false, br_false]
          cases @newsOf T mr false e x <;> simp [bnd, br, Lz.get, Kt.go]
        · simp only [true_and, br_true]
          congr; funext ys; cases roomy T _ (xs.length + ys.length) <;> simp [bnd, br, Lz.get, Kt.go]
      · simp only [h, false_and, decide_false, br_false, show (e == e') = false by simpa using h]
        cases @newsOf T mr false e' x <;> simp [bnd, br, Lz.get, Kt.go, h]
    | _ => rfl
@[go_sem] theorem news_list (row : Bool) : @newsOf T m row e (.list e' n xs tok) = if e' = e then some xs else none := nr rfl
@[go_sem] theorem news_mt (row : Bool) : @newsOf T m row e (.mt b) = some [] := nr rfl
@[go_sem] theorem news_str (row : Bool) (s : ByteArray) : @newsOf T m row e (.str s) = if T.ty e = some (.int .u8) then some (bytesAV s) else none := nr rfl
@[go_sem ↓] theorem idx_list {R : Type} (k : AV → Option R) : @bnd _ R (aIndexAddr T t (.list e n xs tok) (.int kd i)) ⟨k⟩ = @br R (isSliceT T t && e == elemT T t) ⟨@br R (idxOk i xs.length) ⟨@bnd _ R (xs[i.toNat]?) ⟨fun v => k (.fptr e v)⟩⟩ ⟨none⟩⟩ ⟨none⟩ := by
  unfold aIndexAddr isSliceT elemT idxOk
  cases T.ty t with
  | none => rfl
  | some d =>
    cases d with
    | slice e' =>
      by_cases h : e = e'
      · subst h
        by_cases h0 : 0 ≤ i <;> by_cases h1 : i < xs.length <;> simp [h0, h1, br, bnd, Lz.get]
        try (cases xs[i.toNat]? <;> rfl)
      · have hb : (e == e') = false := by simpa using h
        simp [h, hb, br, bnd, Lz.get]
    | _ => rfl
end
section
variable {R : Type} (C : Cfg) (call : Caller) (f : FuncId) (q : Bool) (ρ : Env) (σr σ : St) (d : Option Tmp) (ty : TypeId) (pos : String) (af : Array Edge) (gd : Option (Nat × Bool)) (k : AV × St → Option R)
theorem ev_buildSlice (t : TypeId) (n : Nat) (parts : Array (Nat × Operand)) (hrow : rowD C f d = false) : @bnd _ R (evalOp C call f q ρ σr σ ⟨d, .buildSlice t n parts, ty, pos, af, gd⟩) ⟨k⟩ =
    @br R (isSliceT C.T t && decide (n ≤ 1000) && decide (C.T.size (elemT C.T t) ≤ 10000)) ⟨@bnd _ R (fillA C.T (List.replicate n (elemT C.T t)) (List.replicate n (C.T.zero (elemT C.T t))) (parts.toList.map fun (i, x) => (i, val ρ x))) ⟨fun xs => @bndN _ R (normL C.T (List.replicate n (elemT C.T t)) xs) ⟨fun xs => @br R (pureL xs) ⟨k (.list (elemT C.T t) false xs (some 0), σ)⟩ ⟨none⟩⟩⟩⟩ ⟨none⟩ := by
  have hr : rowO C f ⟨d, .buildSlice t n parts, ty, pos, af, gd⟩ = false := hrow
  simp only [evalOp, hr]
  unfold isSliceT elemT
  cases C.T.ty t with
  | none => rfl
  | some D =>
    cases D with
    | slice e =>
      by_cases h1 : n ≤ 1000 <;> by_cases h2 : C.T.size e ≤ 10000 <;> simp [h1, h2, bind_bnd, if_bnd, br, bnd, Lz.get]
      cases fillA C.T (List.replicate n e) (List.replicate n (C.T.zero e)) (parts.toList.map fun (i, x) => (i, val ρ x)) with
      | none => rfl
      | some xs => simp only [Option.bind_some, bndN, Kt.go]; cases hp : pureL (normL C.T (List.replicate n e) xs) <;> simp [hp, br, Lz.get]
    | _ => rfl
end
section
variable {R : Type} (T : Tab) (σ : St)
def setO (σ : St) (id : Nat) (p : List Nat) (v : AV) (o : Option AObj) : Option St := match o with | some (.cells e vs) => (rowPut vs p v).map fun us => σ.set id (.cells e us) | _ => none
def putR (σ : St) (id : Nat) (e : TypeId) (us : Option (List AV)) : Option St := us.map fun us => σ.set id (.cells e us)
@[go_sem ↓] theorem store_ptr (t : TypeId) (id : Nat) (p : List Nat) (v : AV) (k : St → Option R) : @bnd _ R (@aStore T ⟨σ⟩ t (.ptr t id p) v) ⟨k⟩ = @br R (fits T t v) ⟨@bnd _ R (setO σ id p v (σ.obj id)) ⟨k⟩⟩ ⟨none⟩ := by
  simp only [aStore, same_self, Bool.true_and, setO]
  cases fits T t v
  · rfl
  · simp only [if_true, br_true]
    cases σ.obj id with
    | none => rfl
    | some o => cases o <;> rfl
@[go_sem] theorem setO_cells (id : Nat) (p : List Nat) (v : AV) (e : TypeId) (vs : List AV) : setO σ id p v (some (.cells e vs)) = putR σ id e (rowPut vs p v) := nr rfl
@[go_sem] theorem putR_some (id : Nat) (e : TypeId) (us : List AV) : putR σ id e (some us) = some (σ.set id (.cells e us)) := nr rfl
def putH (x : Option AV) (vs : List AV) (i : Nat) : Option (List AV) := x.map fun v => vs.set i v
def putO (x : Option AV) (p : List Nat) (u : AV) : Option AV := match x with | some v => v.put p u | none => none
@[go_sem] theorem rowPut_cons (vs : List AV) (i : Nat) (p : List Nat) (u : AV) : rowPut vs (i :: p) u = putH (putO vs[i]? p u) vs i := by
  simp only [rowPut, putO, putH]; cases vs[i]? <;> rfl
@[go_sem] theorem putH_some (v : AV) (vs : List AV) (i : Nat) : putH (some v) vs i = some (vs.set i v) := nr rfl
@[go_sem] theorem putO_some (v : AV) (p : List Nat) (u : AV) : putO (some v) p u = v.put p u := nr rfl
@[go_sem] theorem put_nil (v u : AV) : v.put [] u = some u := by cases v <;> rfl
def putG (x : Option AV) (t : TypeId) (vs : List AV) (i : Nat) : Option AV := x.map fun v => .agg t (vs.set i v)
@[go_sem] theorem put_agg (t : TypeId) (vs : List AV) (i : Nat) (p : List Nat) (u : AV) : (AV.agg t vs).put (i :: p) u = putG (putO vs[i]? p u) t vs i := by
  simp only [AV.put, putO, putG]; cases vs[i]? <;> rfl
@[go_sem] theorem putG_some (v : AV) (t : TypeId) (vs : List AV) (i : Nat) : putG (some v) t vs i = some (.agg t (vs.set i v)) := nr rfl
/-- a call of a function of values, by joints -/
theorem callVal_go (call : Caller) (q : Bool) (mr m : Mem) (g : FuncId) (args : List AV) (k : AV × St → Option R) (hnp : noPtr args = true) : @bnd _ R (@callVal call q mr m g args) ⟨k⟩ =
    @bnd _ R (freezeL mr.st args) ⟨fun us => @bnd _ R (call g (stripL us) St.empty) ⟨fun p => @br R (noMem p.1) ⟨k (p.1, m.st)⟩ ⟨@br R q ⟨none⟩ ⟨@bnd _ R (retok p.2 (killAll m.st (viewIdsL args)) p.1) ⟨k⟩⟩⟩⟩⟩ := by
  unfold callVal
  rw [if_pos hnp]
  cases freezeL mr.st args with
  | none => rfl
  | some us =>
    simp only [Option.bind_some, bnd_some]
    cases call g (stripL us) St.empty with
    | none => rfl
    | some p =>
      simp only [Option.bind_some, bnd_some]
      cases noMem p.1
      · cases q <;> rfl
      · rfl
theorem callA_go (call : Caller) (q : Bool) (mr m : Mem) (C : Cfg) (g : FuncId) (caps args : List AV) (k : AV × St → Option R) : @bnd _ R (@callA C call q false (.func g caps) args mr m) ⟨k⟩ =
    @br R (decide (g < 1000000)) ⟨@br R (C.isVal g) ⟨@br R (q && C.calm g) ⟨@bnd _ R (@callCalm call mr m g (args ++ caps)) ⟨k⟩⟩ ⟨@bnd _ R (@callVal call q mr m g (args ++ caps)) ⟨k⟩⟩⟩ ⟨@br R q ⟨none⟩ ⟨@bnd _ R (@callNv C call g (args ++ caps) m) ⟨k⟩⟩⟩⟩ ⟨none⟩ := by
  unfold callA
  simp only
  by_cases h : g < 1000000
  · simp only [h, if_true, decide_true, br_true, Bool.false_eq_true, if_false]
    cases C.isVal g
    · cases q <;> rfl
    · cases (q && C.calm g) <;> rfl
  · simp only [h, if_false, decide_false, br_false, bnd_none]
theorem callA_row (call : Caller) (q : Bool) (mr m : Mem) (C : Cfg) (g : FuncId) (caps args : List AV) (k : AV × St → Option R) : @bnd _ R (@callA C call q true (.func g caps) args mr m) ⟨k⟩ =
    @br R (decide (g < 1000000)) ⟨@br R q ⟨none⟩ ⟨@br R (C.isVal (g + 1000000)) ⟨none⟩ ⟨@bnd _ R (call (g + 1000000) (args ++ caps) m.st) ⟨k⟩⟩⟩⟩ ⟨none⟩ := by
  unfold callA
  simp only
  by_cases h : g < 1000000
  · simp only [h, if_true, decide_true, br_true]
    cases q
    · simp only [Bool.false_eq_true, if_false, br_false]
      cases C.isVal (g + 1000000) <;> rfl
    · rfl
  · simp only [h, if_false, decide_false, br_false, bnd_none]
@[go_sem] theorem strip_int (k : IntKind) (n : Int) : strip (.int k n) = .int k n := by simp only [strip]
@[go_sem] theorem strip_bool (b : Bool) : strip (.bool b) = .bool b := by simp only [strip]
@[go_sem] theorem strip_str (b : ByteArray) : strip (.str b) = .str b := by simp only [strip]
@[go_sem] theorem strip_aggs (t : TypeId) (vs : List AV) : strip (.agg t vs) = .agg t (stripL vs) := by simp only [strip]
@[go_sem] theorem strip_list (e : TypeId) (n : Bool) (xs : List AV) (tok : Option Nat) : strip (.list e n xs tok) = .list e n xs none := by simp only [strip]
@[go_sem] theorem strip_mt (b : Bool) : strip (.mt b) = .mt b := by simp only [strip]
@[go_sem] theorem strip_nilp : strip .nilp = .nilp := by simp only [strip]
@[go_sem] theorem strip_fptr (t : TypeId) (v : AV) : strip (.fptr t v) = .fptr t v := by simp only [strip]
@[go_sem] theorem strip_nilf : strip .nilf = .nilf := by simp only [strip]
@[go_sem] theorem strip_func (f : FuncId) (c : List AV) : strip (.func f c) = .func f c := by simp only [strip]
@[go_sem] theorem strip_nilm : strip .nilm = .nilm := by simp only [strip]
@[go_sem] theorem stripL_nil : stripL [] = [] := by simp only [stripL]
@[go_sem] theorem stripL_cons (v : AV) (vs : List AV) : stripL (v :: vs) = strip v :: stripL vs := by simp only [stripL]
attribute [go_sem] noMem noMemL pure1 pureL viewIds viewIdsL killAll retok retok1 freeze freezeL fullT
end
section
variable (T : Tab) (ts : List TypeId) (vs : List AV)
def fillT (T : Tab) (ts : List TypeId) (vs : List AV) (i : Nat) (v : AV) (r : List (Nat × AV)) (ft : Option TypeId) : Option (List AV) := match ft with | some ft => if fits T ft v = true then fillA T ts (vs.set i v) r else none | none => none
@[go_sem] theorem fill_nil : fillA T ts vs [] = some vs := nr rfl
@[go_sem] theorem fill_cons (i : Nat) (v : AV) (r : List (Nat × AV)) : fillA T ts vs ((i, v) :: r) = fillT T ts vs i v r ts[i]? := nr rfl
@[go_sem] theorem fillT_some (i : Nat) (v : AV) (r : List (Nat × AV)) (ft : TypeId) : fillT T ts vs i v r (some ft) = if fits T ft v = true then fillA T ts (vs.set i v) r else none := nr rfl
end
section
variable (σ : St) (o : AObj) (tk : Option Nat) (i j : Nat)
@[go_sem ↓] theorem live_new : (σ.new o).live i = σ.live i := nr rfl
@[go_sem ↓] theorem live_set : (σ.set j o).live i = σ.live i := nr rfl
@[go_sem ↓] theorem live_tokNew : (σ.tokNew tk).live i = if i = σ.ntok then true else if tk = some i then false else σ.live i := nr rfl
@[go_sem ↓] theorem ntok_new : (σ.new o).ntok = σ.ntok := nr rfl
@[go_sem ↓] theorem ntok_set : (σ.set j o).ntok = σ.ntok := nr rfl
@[go_sem ↓] theorem ntok_tokNew : (σ.tokNew tk).ntok = σ.ntok + 1 := nr rfl
@[go_sem ↓] theorem ntok_empty : St.empty.ntok = 0 := nr rfl
theorem roomy_of {T : Tab} {e : TypeId} {n : Nat} (h : n ≤ 1000000) (hb : T.bytes e ≤ 1000000) : roomy T e n = true := by
  have h1 : n * T.bytes e ≤ 1000000 * 1000000 := Nat.mul_le_mul h hb
  have h2 : n ≤ most := Nat.le_trans h (by decide)
  have h3 : n * T.bytes e ≤ most := Nat.le_trans h1 (by decide)
  simp [roomy, h2, h3]
end
section
variable {R : Type} (C : Cfg) (call : Caller) (f : FuncId) (q : Bool) (mr m : Mem) (dst : Option Tmp) (k : AV → St → Option R) (T : Tab) (t tx e e' : TypeId) (b n : Bool) (xs : List AV) (tok : Option Nat) (x s : AV)
@[go_sem ↓] theorem ev_len2 : @bnd2 R (@evalBuiltin C f q mr m dst .len [t] [x]) ⟨k⟩ = @bnd _ R (@aLen C.T mr t x) ⟨fun v => k v m.st⟩ := by rw [bnd2_of]; exact ev_len ..
/-- the first argument is no row that is written -/
def noView : AV → Bool | .view .. => false | _ => true
@[go_sem] theorem noView_mt (b : Bool) : noView (.mt b) = true := nr rfl
@[go_sem] theorem noView_list (e : TypeId) (n : Bool) (xs : List AV) (t : Option Nat) : noView (.list e n xs t) = true := nr rfl
@[go_sem] theorem noView_view (e : TypeId) (i : Nat) (p : List Nat) (o l : Nat) : noView (.view e i p o l) = false := nr rfl
@[go_sem ↓] theorem ev_append2 : @bnd2 R (@evalBuiltin C f false mr m dst .append [t, tx] [s, x]) ⟨k⟩ = @br R (isRowT C.T tx && noView s) ⟨@bnd2 R (@aAppend C.T mr m (rowD C f dst) t s x) ⟨k⟩⟩ ⟨none⟩ := by
  rw [bnd2_of, bnd2_of, ev_append]
  cases s <;> cases isRowT C.T tx <;> rfl
@[go_sem ↓] theorem app_mt2 : @bnd2 R (@aAppend T mr m false t (.mt b) x) ⟨k⟩ = @br R (isSliceT T t) ⟨@bnd _ R (@newsOf T mr false (elemT T t) x) ⟨fun ys => @br R (roomy T (elemT T t) ys.length) ⟨k (.list (elemT T t) (b && ys.isEmpty) ys (some (m.st.ntok + 1))) (m.st.tokNew none)⟩ ⟨none⟩⟩⟩ ⟨none⟩ := by
  rw [bnd2_of]; exact app_mt ..
theorem app_rowE (t e : TypeId) (b : Bool) (x : AV) : @bnd2 R (@aAppend T mr m true t (.list e b [] (some 0)) x) ⟨k⟩ = @br R (isSliceT T t && e == elemT T t) ⟨@bnd _ R (@newsOf T mr true (elemT T t) x) ⟨fun ys => @br R (roomy T (elemT T t) (0 + ys.length)) ⟨@br R ys.isEmpty ⟨k (.list (elemT T t) (b && ys.isEmpty) ([] ++ ys) (some (m.st.ntok + 1))) (m.st.tokNew none)⟩ ⟨k (.view (elemT T t) m.st.next [] 0 ys.length) (m.st.new (.cells (elemT T t) ys))⟩⟩ ⟨none⟩⟩⟩ ⟨none⟩ := by
  rw [bnd2_of]
  unfold aAppend isSliceT elemT
  cases T.ty t with
  | none => rfl
  | some d =>
    cases d with
    | slice e' =>
      simp only [bind_bnd, if_bnd, Bool.true_and, List.isEmpty_nil, List.length_nil]
      by_cases h : e = e'
      · subst h
        simp only [true_and, BEq.rfl, br_true]
        congr; funext ys; cases roomy T _ (0 + ys.length) <;> cases ys.isEmpty <;> simp [bnd, br, Lz.get, Kt.go]
      · simp only [h, false_and, decide_false, beq_iff_eq, br_false, show (e == e') = false by simpa using h]
        cases @newsOf T mr true e' x <;> simp [bnd, br, Lz.get, Kt.go, h]
    | _ => rfl
attribute [go_sem ↓] app_rowE
@[go_sem ↓] theorem app_full2 : @bnd2 R (@aAppend T mr m false t (.list e b xs (some 0)) x) ⟨k⟩ = @br R (isSliceT T t && e == elemT T t) ⟨@bnd _ R (@newsOf T mr false (elemT T t) x) ⟨fun ys => @br R (roomy T (elemT T t) (xs.length + ys.length)) ⟨k (.list (elemT T t) (b && ys.isEmpty) (xs ++ ys) (some (m.st.ntok + 1))) (m.st.tokNew none)⟩ ⟨none⟩⟩⟩ ⟨none⟩ := by
  rw [bnd2_of]; exact app_full ..
@[go_sem ↓] theorem app_list2 (tk : Nat) : @bnd2 R (@aAppend T mr m false t (.list e b xs (some (tk + 1))) x) ⟨k⟩ = @br R (isSliceT T t && e == elemT T t) ⟨@br R (m.st.live tk) ⟨@bnd _ R (@newsOf T mr false (elemT T t) x) ⟨fun ys => @br R (roomy T (elemT T t) (xs.length + ys.length)) ⟨k (.list (elemT T t) (b && ys.isEmpty) (xs ++ ys) (some (m.st.ntok + 1))) (m.st.tokNew (some tk))⟩ ⟨none⟩⟩⟩ ⟨none⟩⟩ ⟨none⟩ := by
  rw [bnd2_of]; exact app_list ..
@[go_sem ↓] theorem callVal_go2 (g : FuncId) (args : List AV) (hnp : noPtr args = true) : @bnd2 R (@callVal call q mr m g args) ⟨k⟩ =
    @bnd _ R (freezeL mr.st args) ⟨fun us => @bnd2 R (call g (stripL us) St.empty) ⟨fun v s => @br R (noMem v) ⟨k v m.st⟩ ⟨@br R q ⟨none⟩ ⟨@bnd2 R (retok s (killAll m.st (viewIdsL args)) v) ⟨k⟩⟩⟩⟩⟩ := by
  rw [bnd2_of, callVal_go _ _ _ _ _ _ _ hnp]
  cases freezeL mr.st args with
  | none => rfl
  | some us =>
    simp only [bnd_some, bnd2_of]
    cases call g (stripL us) St.empty with
    | none => rfl
    | some p =>
      simp only [bnd_some]
      cases noMem p.1
      · cases q
        · simp only [br_false]; rw [bnd2_of]
        · rfl
      · rfl
@[go_sem ↓] theorem callVal_ptr2 (g : FuncId) (t : TypeId) (id : Nat) (path : List Nat) (rest : List AV) : @bnd2 R (@callVal call q mr m g (.ptr t id path :: rest)) ⟨k⟩ =
    @bnd _ R (peekAt mr.st id path) ⟨fun x => @bnd _ R (freeze mr.st x) ⟨fun u => @bnd _ R (freezeL mr.st rest) ⟨fun us => @bnd2 R (call g (.fptr t u :: stripL us) St.empty) ⟨fun v s => @br R (noMem v) ⟨k v m.st⟩ ⟨none⟩⟩⟩⟩⟩ := by
  rw [bnd2_of]
  unfold callVal
  rw [if_neg (by simp [noPtr])]
  simp only
  cases peekAt mr.st id path with
  | none => rfl
  | some x =>
    simp only [Option.bind_some, bnd_some]
    cases freeze mr.st x with
    | none => rfl
    | some u =>
      simp only [Option.bind_some, bnd_some]
      cases freezeL mr.st rest with
      | none => rfl
      | some us =>
        simp only [Option.bind_some, bnd_some, bnd2_of]
        cases call g (.fptr t u :: stripL us) St.empty with
        | none => rfl
        | some p =>
          simp only [Option.bind_some, bnd_some]
          cases noMem p.1 <;> rfl
@[go_sem ↓] theorem callVal_agg2 (g : FuncId) (ta t : TypeId) (id : Nat) (path : List Nat) (fs rest : List AV) : @bnd2 R (@callVal call q mr m g (.agg ta (.ptr t id path :: fs) :: rest)) ⟨k⟩ =
    @bnd _ R (peekAt mr.st id path) ⟨fun x => @bnd _ R (freeze mr.st x) ⟨fun u => @bnd _ R (freezeL mr.st fs) ⟨fun gs => @bnd _ R (freezeL mr.st rest) ⟨fun us => @bnd2 R (call g (.agg ta (.fptr t u :: stripL gs) :: stripL us) St.empty) ⟨fun v s => @br R (noMem v) ⟨k v m.st⟩ ⟨none⟩⟩⟩⟩⟩⟩ := by
  rw [bnd2_of]
  unfold callVal
  rw [if_neg (by simp [noPtr])]
  simp only
  cases peekAt mr.st id path with
  | none => rfl
  | some x =>
    simp only [Option.bind_some, bnd_some]
    cases freeze mr.st x with
    | none => rfl
    | some u =>
      simp only [Option.bind_some, bnd_some]
      cases freezeL mr.st fs with
      | none => rfl
      | some gs =>
      simp only [Option.bind_some, bnd_some]
      cases freezeL mr.st rest with
      | none => rfl
      | some us =>
        simp only [Option.bind_some, bnd_some, bnd2_of]
        cases call g (.agg ta (.fptr t u :: stripL gs) :: stripL us) St.empty with
        | none => rfl
        | some p =>
          simp only [Option.bind_some, bnd_some]
          cases noMem p.1 <;> rfl
attribute [go_sem] noPtr peekAt
@[go_sem ↓] theorem callA_go2 (g : FuncId) (caps args : List AV) : @bnd2 R (@callA C call q false (.func g caps) args mr m) ⟨k⟩ =
    @br R (decide (g < 1000000)) ⟨@br R (C.isVal g) ⟨@br R (q && C.calm g) ⟨@bnd2 R (@callCalm call mr m g (args ++ caps)) ⟨k⟩⟩ ⟨@bnd2 R (@callVal call q mr m g (args ++ caps)) ⟨k⟩⟩⟩ ⟨@br R q ⟨none⟩ ⟨@bnd2 R (@callNv C call g (args ++ caps) m) ⟨k⟩⟩⟩⟩ ⟨none⟩ := by
  rw [bnd2_of, callA_go, bnd2_of, bnd2_of, bnd2_of]
@[go_sem ↓] theorem callNv_go2 (g : FuncId) (args : List AV) : @bnd2 R (@callNv C call g args m) ⟨k⟩ = @br R (C.kills g) ⟨@bnd _ R (freezeN m.st args) ⟨fun us => @bnd2 R (call g us (killAll m.st (viewIdsL args))) ⟨k⟩⟩⟩ ⟨@bnd2 R (call g args m.st) ⟨k⟩⟩ := by
  unfold callNv
  cases C.kills g
  · rfl
  · simp only [if_true, br_true, bnd2_of]
    cases freezeN m.st args with
    | none => rfl
    | some us => simp only [Option.bind_some, bnd_some, bnd2_of]
attribute [go_sem] freezeN freezeN1 pureR
@[go_sem ↓] theorem callCalm_go2 (g : FuncId) (args : List AV) : @bnd2 R (@callCalm call mr m g args) ⟨k⟩ = @br R (noPtr args && (viewIdsL args).isEmpty) ⟨@bnd _ R (freezeL mr.st args) ⟨fun us => @bnd2 R (call g (stripL us) St.empty) ⟨fun v s => @br R (pureR v) ⟨k v m.st⟩ ⟨none⟩⟩⟩⟩ ⟨none⟩ := by
  unfold callCalm
  cases (noPtr args && (viewIdsL args).isEmpty)
  · rfl
  · simp only [if_true, br_true, bnd2_of]
    cases freezeL mr.st args with
    | none => rfl
    | some us =>
      simp only [Option.bind_some, bnd_some]
      cases call g (stripL us) St.empty with
      | none => rfl
      | some p =>
        obtain ⟨v, s⟩ := p
        simp only [Option.bind_some, bnd2_some]
        cases pureR v <;> rfl
@[go_sem ↓] theorem callA_row2 (g : FuncId) (caps args : List AV) : @bnd2 R (@callA C call q true (.func g caps) args mr m) ⟨k⟩ =
    @br R (decide (g < 1000000)) ⟨@br R q ⟨none⟩ ⟨@br R (C.isVal (g + 1000000)) ⟨none⟩ ⟨@bnd2 R (call (g + 1000000) (args ++ caps) m.st) ⟨k⟩⟩⟩⟩ ⟨none⟩ := by
  rw [bnd2_of, callA_row, bnd2_of]
@[go_sem ↓] theorem ev_clearRow2 (t e : TypeId) (id : Nat) (path : List Nat) (off len : Nat) : @bnd2 R (@evalBuiltin C f false mr m dst .clear [t] [.view e id path off len]) ⟨k⟩ = @bnd _ R (@aClearRow C.T m t e id path off len) ⟨fun σ => k (.tup []) σ⟩ := by
  rw [bnd2_of]
  simp only [evalBuiltin, Bool.false_eq_true, if_false]
  cases @aClearRow C.T m t e id path off len <;> rfl
@[go_sem ↓] theorem ev_buildSlice2 (ρ : Env) (σr σ : St) (d : Option Tmp) (ty : TypeId) (pos : String) (af : Array Edge) (gd : Option (Nat × Bool)) (t : TypeId) (n : Nat) (parts : Array (Nat × Operand)) (hrow : rowD C f d = false) : @bnd2 R (evalOp C call f q ρ σr σ ⟨d, .buildSlice t n parts, ty, pos, af, gd⟩) ⟨k⟩ =
    @br R (isSliceT C.T t && decide (n ≤ 1000) && decide (C.T.size (elemT C.T t) ≤ 10000)) ⟨@bnd _ R (fillA C.T (List.replicate n (elemT C.T t)) (List.replicate n (C.T.zero (elemT C.T t))) (parts.toList.map fun (i, x) => (i, val ρ x))) ⟨fun xs => @bndN _ R (normL C.T (List.replicate n (elemT C.T t)) xs) ⟨fun xs => @br R (pureL xs) ⟨k (.list (elemT C.T t) false xs (some 0)) σ⟩ ⟨none⟩⟩⟩⟩ ⟨none⟩ := by
  rw [bnd2_of]; exact ev_buildSlice C call f q ρ σr σ d ty pos af gd (fun p => k p.1 p.2) t n parts hrow
end
attribute [go_sem] capOk List.all_cons List.all_nil
section
variable {R : Type} (C : Cfg) (call : Caller) (f : FuncId) (q : Bool) (ρ : Env) (σr σ : St) (d : Option Tmp) (ty : TypeId) (pos : String) (af : Array Edge) (gd : Option (Nat × Bool)) (k : AV → St → Option R)
@[go_sem ↓] theorem ev_makeFunc2 (g : FuncId) (caps : Array Operand) : @bnd2 R (evalOp C call f q ρ σr σ ⟨d, .makeFunc (.func g) #[] caps, ty, pos, af, gd⟩) ⟨k⟩ = @br R (caps.toList.all fun x => capOk (val ρ x)) ⟨k (.func g (caps.toList.map (val ρ))) σ⟩ ⟨none⟩ := by
  simp only [evalOp, Array.isEmpty_empty, Bool.true_and]
  cases (caps.toList.all fun x => capOk (val ρ x)) <;> rfl
end
end Go.Proofs.Yticlihmbikcohaa.Va
