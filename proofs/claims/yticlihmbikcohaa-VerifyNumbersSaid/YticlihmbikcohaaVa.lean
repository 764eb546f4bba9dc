/- an abstract interpreter of the machine's code: values are trees, slices that are only built are lists, variables and rows that are written are numbered objects -/
import Derived.Test.YticlihmbikcohaaProg
import Derived.WalkKit
import Derived.Orders
namespace Go.Proofs.Yticlihmbikcohaa.Va
universe u
open Go
set_option linter.unusedVariables false
set_option linter.unusedSimpArgs false

/-- An equation that simp doesn't take for one by definition (each step is then looked at by itself). -/
theorem nr {α : Sort u} {a b : α} (h : a = b) : a = b := h

/-- A type's shape. -/
inductive Ty where
  | bool | int (k : IntKind) | str | ptr | slice (e : TypeId) | array (n : Nat) (e : TypeId) | struct (fs : List TypeId) | map (k v : TypeId) | func | iface
  deriving DecidableEq, Inhabited

/-- A value as a tree. -/
inductive AV where
  | undef
  | bool (b : Bool)
  | int (k : IntKind) (n : Int)
  | str (s : ByteArray)
  | agg (t : TypeId) (vs : List AV)
  | tup (vs : List AV)
  | mt (nil : Bool)
  | list (e : TypeId) (nil : Bool) (xs : List AV) (tok : Option Nat)
  | view (e : TypeId) (id : Nat) (path : List Nat) (off len : Nat)
  | nilp
  | ptr (t : TypeId) (id : Nat) (path : List Nat)
  | fptr (t : TypeId) (v : AV)
  | nilf
  | func (f : FuncId) (caps : List AV)
  | nilm
  | map (id : Nat)
  | nili
  | iface (t : TypeId) (v : AV)
  deriving Inhabited

/-- An object: a row of variables (one: a variable), or a map. -/
inductive AObj where
  | cells (e : TypeId) (vs : List AV)
  | map (k v : TypeId) (es : List (AV × AV))

structure St where
  obj : Nat → Option AObj
  next : Nat
  live : Nat → Bool
  ntok : Nat
def St.empty : St := ⟨fun _ => none, 0, fun _ => false, 0⟩
def St.new (σ : St) (o : AObj) : St := { σ with obj := fun i => if i = σ.next then some o else σ.obj i, next := σ.next + 1 }
def St.set (σ : St) (id : Nat) (o : AObj) : St := { σ with obj := fun i => if i = id then some o else σ.obj i }
def St.kill (σ : St) (id : Nat) : St := { σ with obj := fun i => if i = id then none else σ.obj i }
/-- Objects from n on are forgotten. -/
def St.trim (σ : St) (n : Nat) : St := { σ with obj := fun i => if i < n then σ.obj i else none }
/-- The token t (none: no token) is spent; a new one is told. -/
def St.tokNew (σ : St) (t : Option Nat) : St := { σ with live := fun i => if i = σ.ntok then true else if t = some i then false else σ.live i, ntok := σ.ntok + 1 }

class Mem where st : St
abbrev Env := Nat → AV
def upd (ρ : Env) (i : Nat) (v : AV) : Env := fun j => if j = i then v else ρ j

/-- What is known of the types. -/
structure Tab where
  ty : TypeId → Option Ty
  size : TypeId → Nat
  bytes : TypeId → Nat
  zero : TypeId → AV
  eqT : TypeId → Bool

def Tab.same (T : Tab) (s t : TypeId) : Bool := s == t || ((T.ty s).isSome && T.ty s == T.ty t)
def Tab.comps (d : Ty) : Option (List TypeId) := match d with | .struct fs => some fs | .array n e => some (List.replicate n e) | _ => none
def Tab.agg (T : Tab) (t : TypeId) : Bool := match T.ty t with | some (.struct _) | some (.array ..) => true | _ => false
def aggA : AV → Bool | .agg .. => true | _ => false

/-- May a value stand in a variable of the type? -/
def fits (T : Tab) (t : TypeId) (v : AV) : Bool :=
  match v with
  | .agg s _ => T.same s t
  | .bool _ => T.ty t == some .bool
  | .int k _ => T.ty t == some (.int k)
  | .str _ => T.ty t == some .str
  | .mt _ => match T.ty t with | some (.slice _) => true | _ => false
  | .list e _ _ _ | .view e _ _ _ _ => T.ty t == some (.slice e)
  | .nilp | .ptr .. | .fptr .. => T.ty t == some .ptr
  | .nilf | .func .. => T.ty t == some .func
  | .nilm => match T.ty t with | some (.map ..) => true | _ => false
  | .map _ => match T.ty t with | some (.map ..) => true | _ => false
  | .nili | .iface .. => T.ty t == some .iface
  | _ => false

/-- No token, or that of a slice without room (which needs no watching). -/
def fullT : Option Nat → Bool | none | some 0 => true | _ => false
/- Without objects, without tokens. -/
mutual
def pure1 : AV → Bool
  | .bool _ | .int .. | .str _ | .mt _ | .nilp | .nilf | .nilm | .nili => true
  | .agg _ vs => pureL vs
  | .list _ _ _ tok => fullT tok
  | .fptr .. => true
  | _ => false
def pureL : List AV → Bool
  | [] => true
  | v :: vs => pure1 v && pureL vs
end
/- A value as an element that is only looked at: slices' tokens are forgotten, nil slices are rows. -/
mutual
def normT (T : Tab) (t : TypeId) : AV → AV
  | .agg s vs => match T.ty t with | some d => (match Tab.comps d with | some ts => .agg s (normL T ts vs) | none => .agg s vs) | none => .agg s vs
  | .list e n xs tok => .list e n xs (if fullT tok then tok else none)
  | .mt b => match T.ty t with | some (.slice e) => .list e b [] none | _ => .mt b
  | v => v
def normL (T : Tab) : List TypeId → List AV → List AV
  | ts, [] => []
  | [], v :: vs => v :: vs
  | t :: ts, v :: vs => normT T t v :: normL T ts vs
end
/- Without memory at all. -/
mutual
def noMem : AV → Bool
  | .bool _ | .int .. | .str _ | .mt _ | .nilp | .nilf | .nilm | .nili => true
  | .agg _ vs | .tup vs => noMemL vs
  | _ => false
def noMemL : List AV → Bool
  | [] => true
  | v :: vs => noMem v && noMemL vs
end

/-- The part of a value at a path. -/
def AV.at : AV → List Nat → Option AV
  | v, [] => some v
  | .agg _ vs, i :: p => match vs[i]? with | some v => v.at p | none => none
  | _, _ => none
def AV.put : AV → List Nat → AV → Option AV
  | _, [], u => some u
  | .agg t vs, i :: p, u => match vs[i]? with | some v => (v.put p u).map fun v' => .agg t (vs.set i v') | none => none
  | _, _, _ => none
def rowAt (vs : List AV) : List Nat → Option AV
  | [] => none
  | i :: p => match vs[i]? with | some v => v.at p | none => none
def rowPut (vs : List AV) (p : List Nat) (u : AV) : Option (List AV) :=
  match p with
  | [] => none
  | i :: p => match vs[i]? with | some v => (v.put p u).map fun v' => vs.set i v' | none => none

def constAV : Value → AV
  | .bool b => .bool b
  | .int k n => .int k n
  | .string s => .str s
  | .pointer none => .nilp
  | .slice none 0 0 => .mt true
  | .map none => .nilm
  | .nilFunc => .nilf
  | .nilIface => .nili
  | _ => .undef
/-- What the program's own variables hold, all its life long (a seat's own list: number, type, value). -/
def globList : List (Nat × TypeId × AV) := []
def globAV (g : Nat) : AV := match globList.lookup g with | some (t, v) => .fptr t v | none => .undef
def val (ρ : Env) : Operand → AV
  | .tmp t => ρ t
  | .const v => constAV v
  | .func f => .func f []
  | .global g => globAV g

/-- What a slice holds. -/
def sliceOf [m : Mem] : AV → Option (List AV)
  | .mt _ => some []
  | .list _ _ xs _ => some xs
  | .view e id path off len =>
    match m.st.obj id with
    | some (.cells _ vs) =>
      match path with
      | [] => if off + len ≤ vs.length then some ((vs.drop off).take len) else none
      | p => match rowAt vs p with
        | some (.agg _ us) => if off + len ≤ us.length then some ((us.drop off).take len) else none
        | _ => none
    | _ => none
  | _ => none

/-- Is it a slice of the element type (or one without elements)? -/
def elemIs (e : TypeId) : AV → Bool
  | .mt _ => true
  | .list e' _ _ _ => e' == e
  | .view e' _ _ _ _ => e' == e
  | _ => false

def intBin (op : BinOp) (k : IntKind) (a : Int) (k' : IntKind) (b : Int) : Option AV :=
  match op with
  | .shl => if b < 0 then none else some (.int k (k.wrap (a * 2 ^ (min b.toNat k.bits))))
  | .shr => if b < 0 then none else some (.int k (a.fdiv (2 ^ (min b.toNat k.bits))))
  | .add => if k = k' then some (.int k (k.wrap (a + b))) else none
  | .sub => if k = k' then some (.int k (k.wrap (a - b))) else none
  | .mul => if k = k' then some (.int k (k.wrap (a * b))) else none
  | .quo => if k = k' then if b = 0 then none else some (.int k (k.wrap (a.tdiv b))) else none
  | .rem => if k = k' then if b = 0 then none else some (.int k (a.tmod b)) else none
  | .and => if k = k' then some (.int k (k.wrap (BitVec.ofInt k.bits a &&& BitVec.ofInt k.bits b).toNat)) else none
  | .or => if k = k' then some (.int k (k.wrap (BitVec.ofInt k.bits a ||| BitVec.ofInt k.bits b).toNat)) else none
  | .xor => if k = k' then some (.int k (k.wrap (BitVec.ofInt k.bits a ^^^ BitVec.ofInt k.bits b).toNat)) else none
  | .andNot => if k = k' then some (.int k (k.wrap (BitVec.ofInt k.bits a &&& ~~~ BitVec.ofInt k.bits b).toNat)) else none
  | .eql => if k = k' then some (.bool (a == b)) else none
  | .neq => if k = k' then some (.bool (a != b)) else none
  | .lss => if k = k' then some (.bool (decide (a < b))) else none
  | .leq => if k = k' then some (.bool (decide (a ≤ b))) else none
  | .gtr => if k = k' then some (.bool (decide (a > b))) else none
  | .geq => if k = k' then some (.bool (decide (a ≥ b))) else none

/-- Are two structs' parts the same? -/
def eqL (f : TypeId → AV → AV → Option Bool) : List TypeId → List AV → List AV → Option Bool
  | [], [], [] => some true
  | t :: ts, v :: vs, u :: us => (f t v u).bind fun a => (eqL f ts vs us).map fun b => a && b
  | _, _, _ => none
/-- Are two values of a type that can be compared without memory the same? -/
def aEqT (T : Tab) : Nat → TypeId → AV → AV → Option Bool
  | 0, _, _, _ => none
  | n + 1, t, x, y =>
    match x, y with
    | .bool a, .bool b => if T.ty t = some .bool then some (a == b) else none
    | .int k a, .int k' b => if k = k' ∧ T.ty t = some (.int k) then some (a == b) else none
    | .str a, .str b => if T.ty t = some .str then some (a.toList == b.toList) else none
    | .agg s xs, .agg s' ys => if T.eqT t = true ∧ T.same s t = true ∧ T.same s' t = true then match T.ty t with | some (.struct fs) => eqL (aEqT T n) fs xs ys | _ => none else none
    | _, _ => none

/-- What the interpreter is told: the types, which functions are values alone (they read and write no object that was before), which ones' objects stay, which results are rows that are written (by function and temporary), how many rounds, and what is known of functions from outside. -/
structure Cfg where
  T : Tab
  isVal : FuncId → Bool
  keep : FuncId → Bool
  row : FuncId → Tmp → Bool
  M : Nat
  ext : FuncId → Option (List AV → St → Option (AV × St))
  kills : FuncId → Bool
  calm : FuncId → Bool
  peek : FuncId → Bool

def isBoolT (T : Tab) (t : TypeId) : Bool := match T.ty t with | some .bool => true | _ => false
def isPtrT (T : Tab) (t : TypeId) : Bool := match T.ty t with | some .ptr => true | _ => false
def isFuncT (T : Tab) (t : TypeId) : Bool := match T.ty t with | some .func => true | _ => false
def isMapT (T : Tab) (t : TypeId) : Bool := match T.ty t with | some (.map ..) => true | _ => false
def isSliceT (T : Tab) (t : TypeId) : Bool := match T.ty t with | some (.slice _) => true | _ => false
/-- == and != as a bool; nothing for other operations -/
def eqB (op : BinOp) (b : Bool) : Option AV := match op with | .eql => some (.bool b) | .neq => some (.bool !b) | _ => none
def aBin (T : Tab) (op : BinOp) (t : TypeId) (x y : AV) : Option AV :=
  match x, y with
  | .int k a, .int k' b => intBin op k a k' b
  | .bool a, .bool b => if isBoolT T t = true then eqB op (a == b) else none
  | .str a, .str b =>
    match op with
    | .add => if a.size + b.size ≤ 9223372036854775807 then some (.str (a ++ b)) else none
    | op => eqB op (a.toList == b.toList)
  | .nilp, .nilp => if isPtrT T t = true then eqB op true else none
  | .ptr .., .nilp => if isPtrT T t = true then eqB op false else none
  | .fptr .., .nilp => if isPtrT T t = true then eqB op false else none
  | .nilp, .ptr .. => if isPtrT T t = true then eqB op false else none
  | .nilp, .fptr .. => if isPtrT T t = true then eqB op false else none
  | .nilf, .nilf => if isFuncT T t = true then eqB op true else none
  | .func .., .nilf => if isFuncT T t = true then eqB op false else none
  | .nilm, .nilm => if isMapT T t = true then eqB op true else none
  | .map _, .nilm => if isMapT T t = true then eqB op false else none
  | .mt b, .mt true => if isSliceT T t = true then eqB op b else none
  | .list _ b _ _, .mt true => if isSliceT T t = true then eqB op b else none
  | .view .., .mt true => if isSliceT T t = true then eqB op false else none
  | .agg s xs, .agg s' ys => (aEqT T 20 t (.agg s xs) (.agg s' ys)).bind fun b => eqB op b
  | _, _ => none

def aUn (op : UnOp) (x : AV) : Option AV :=
  match op, x with
  | .not, .bool b => some (.bool !b)
  | .neg, .int k n => some (.int k (k.wrap (0 - n)))
  | .xor, .int k n => some (.int k (k.wrap (BitVec.ofInt k.bits (if k.signed then -1 else k.max) ^^^ BitVec.ofInt k.bits n).toNat))
  | _, _ => none

def bytesAV (s : ByteArray) : List AV := s.data.toList.map fun b => .int .u8 b.toNat
def unbyte : AV → Option UInt8 | .int .u8 n => some (UInt8.ofNat n.toNat) | _ => none
def aConvert (T : Tab) [m : Mem] (src dst : TypeId) (x : AV) : Option AV :=
  match T.ty dst, x with
  | some (.int k), .int _ n => if (T.ty src).isSome = true then some (.int k (k.wrap n)) else none
  | some .str, .str s => if T.ty src = some .str then some (.str s) else none
  | some .str, x =>
    match T.ty src with
    | some (.slice e) => if T.ty e = some (.int .u8) ∧ elemIs e x = true then (sliceOf x).bind fun l => (l.mapM unbyte).map fun bs => .str ⟨bs.toArray⟩ else none
    | _ => none
  | _, _ => none

def aField (T : Tab) (t : TypeId) (x : AV) (f : Nat) : Option AV :=
  match x with
  | .agg s vs => if T.same s t then match T.ty t with | some (.struct _) => vs[f]? | _ => none else none
  | _ => none
def aFieldAddr (T : Tab) (t : TypeId) (x : AV) (f : Nat) : Option AV :=
  match T.ty t with
  | some (.struct fs) =>
    match fs[f]? with
    | some ft =>
      if T.size ft = 0 then none else
      match x with
      | .ptr s id path => if T.same s t then some (.ptr ft id (path ++ [f])) else none
      | .fptr s (.agg _ vs) => if T.same s t then (vs[f]?).map (.fptr ft) else none
      | _ => none
    | none => none
  | _ => none
def aIndexAddr (T : Tab) (t : TypeId) (x i : AV) : Option AV :=
  match i with
  | .int _ n =>
    match T.ty t, x with
    | some (.slice e), .list e' _ xs _ => if e' = e ∧ 0 ≤ n ∧ n < xs.length then (xs[n.toNat]?).map (.fptr e) else none
    | some (.slice e), .view e' id path off len => if e' = e ∧ 0 ≤ n ∧ n < len then some (.ptr e' id (path ++ [off + n.toNat])) else none
    | some (.array m e), .ptr s id path => if T.same s t ∧ 0 ≤ n ∧ n < m then some (.ptr e id (path ++ [n.toNat])) else none
    | some (.array m e), .fptr s (.agg _ vs) => if T.same s t ∧ 0 ≤ n ∧ n < m then (vs[n.toNat]?).map (.fptr e) else none
    | _, _ => none
  | _ => none
def aIndex (T : Tab) (t : TypeId) (x i : AV) : Option AV :=
  match i with
  | .int _ n =>
    match x with
    | .agg s vs => if T.same s t then match T.ty t with | some (.array m _) => if 0 ≤ n ∧ n < m then vs[n.toNat]? else none | _ => none else none
    | .str s => if T.ty t = some .str ∧ 0 ≤ n ∧ n < s.size then (s.data.toList[n.toNat]?).map fun b => .int .u8 b.toNat else none
    | _ => none
  | _ => none
def aLoad (T : Tab) [m : Mem] (t : TypeId) (p : AV) : Option AV :=
  match p with
  | .fptr s v => if T.same s t then some v else none
  | .ptr s id path => if T.same s t then match m.st.obj id with | some (.cells _ vs) => rowAt vs path | _ => none else none
  | _ => none
def aStore (T : Tab) [m : Mem] (t : TypeId) (p v : AV) : Option St :=
  match p with
  | .ptr s id path =>
    if T.same s t && fits T s v then match m.st.obj id with | some (.cells e vs) => (rowPut vs path v).map fun us => m.st.set id (.cells e us) | _ => none else none
  | _ => none
def aNilCheck : AV → Option AV
  | .ptr t id p => some (.ptr t id p)
  | .fptr t v => some (.fptr t v)
  | .func f c => some (.func f c)
  | _ => none
def bound (lo : Option AV) (d : Nat) : Option Nat :=
  match lo with
  | none => some d
  | some (.int _ n) => if 0 ≤ n then some n.toNat else none
  | _ => none
def aSlice (T : Tab) (t : TypeId) (x : AV) (lo hi mx : Option AV) : Option AV :=
  match T.ty t, x, mx with
  | some .str, .str s, none => (bound lo 0).bind fun l => (bound hi s.size).bind fun h => if l ≤ h ∧ h ≤ s.size then some (.str (s.extract l h)) else none
  | some (.slice _), .mt b, none => (bound lo 0).bind fun l => (bound hi 0).bind fun h => if l = 0 ∧ h = 0 then some (.mt b) else none
  | some (.slice e'), .list e b xs tok, none => (bound lo 0).bind fun l => (bound hi xs.length).bind fun h => if l ≤ h ∧ h ≤ xs.length ∧ e' = e then some (.list e b ((xs.take h).drop l) none) else none
  | some (.slice _), .list _ b _ _, some m => (bound lo 0).bind fun l => (bound hi 0).bind fun h => (bound (some m) 0).bind fun m => if l = 0 ∧ h = 0 ∧ m = 0 ∧ hi.isSome then some (.mt b) else none
  | some (.slice _), .mt b, some m => (bound lo 0).bind fun l => (bound hi 0).bind fun h => (bound (some m) 0).bind fun m => if l = 0 ∧ h = 0 ∧ m = 0 ∧ hi.isSome then some (.mt b) else none
  | some (.slice e'), .view e id path off len, none => (bound lo 0).bind fun l => (bound hi len).bind fun h => if l ≤ h ∧ h ≤ len ∧ l < len ∧ e' = e then some (.view e id path (off + l) (h - l)) else none
  | some (.array n e), .ptr s id path, none => (bound lo 0).bind fun l => (bound hi n).bind fun h => if T.same s t = true ∧ l ≤ h ∧ h ≤ n ∧ l < n ∧ path ≠ [] then some (.view e id path l (h - l)) else none
  | _, _, _ => none
def fillA (T : Tab) (ts : List TypeId) : List AV → List (Nat × AV) → Option (List AV)
  | vs, [] => some vs
  | vs, (i, v) :: r => match ts[i]? with | some ft => if fits T ft v then fillA T ts (vs.set i v) r else none | none => none
def aBuild (T : Tab) (t : TypeId) (parts : List (Nat × AV)) : Option AV :=
  match T.zero t, T.ty t with
  | .agg s zs, some d =>
    match Tab.comps d with
    | some ts => if T.same s t then (fillA T ts zs parts).map (.agg t) else none
    | none => none
  | _, _ => none
def aLen (T : Tab) [m : Mem] (t : TypeId) (x : AV) : Option AV :=
  match T.ty t, x with
  | some .str, .str s => some (.int .i64 s.size)
  | some (.array n _), _ => some (.int .i64 n)
  | some (.slice _), .mt _ => some (.int .i64 0)
  | some (.slice _), .list _ _ xs _ => some (.int .i64 xs.length)
  | some (.slice _), .view _ _ _ _ len => some (.int .i64 len)
  | some (.map ..), .nilm => some (.int .i64 0)
  | some (.map ..), .map id => match m.st.obj id with | some (.map _ _ es) => some (.int .i64 es.length) | _ => none
  | _, _ => none
/-- Are two keys the same? (numbers, bools, texts) -/
def keyEq (d : Ty) : AV → AV → Option Bool
  | .int k a, .int k' b => if d = .int k ∧ k = k' then some (a == b) else none
  | .bool a, .bool b => if d = .bool then some (a == b) else none
  | .str a, .str b => if d = .str then some (a.toList == b.toList) else none
  | _, _ => none
/-- Where a key is, and what lies there. -/
def findAV (d : Ty) (k : AV) : List (AV × AV) → Nat → Option (Option (Nat × AV))
  | [], _ => some none
  | e :: es, i => match keyEq d k e.1 with | some true => some (some (i, e.2)) | some false => findAV d k es (i + 1) | none => none
def scalarD : Ty → Bool | .bool | .int _ | .str => true | _ => false
def keyD (T : Tab) (kt : TypeId) (k : AV) : Option Ty := match T.ty kt with | some d => if scalarD d = true && fits T kt k then some d else none | none => none
/-- A map's entries. -/
def mapOf [m : Mem] (kt vt : TypeId) (x : AV) : Option (List (AV × AV)) :=
  match x with
  | .nilm => some []
  | .map id => match m.st.obj id with | some (.map k v es) => if k = kt ∧ v = vt then some es else none | _ => none
  | _ => none
def lookRes (T : Tab) (vt : TypeId) (ok : Bool) (r : Option (Nat × AV)) : AV :=
  match r with
  | some (_, u) => if ok = true then .tup [u, .bool true] else u
  | none => if ok = true then .tup [T.zero vt, .bool false] else T.zero vt
def aLookup (T : Tab) [m : Mem] (t : TypeId) (x i : AV) (ok : Bool) : Option AV :=
  match T.ty t with
  | some (.map kt vt) =>
    if (T.ty vt).isSome = true then (keyD T kt i).bind fun d => (mapOf kt vt x).bind fun es => (findAV d i es 0).map (lookRes T vt ok)
    else none
  | _ => none
def putE (es : List (AV × AV)) (k v : AV) (r : Option (Nat × AV)) : List (AV × AV) := match r with | some (i, _) => es.set i (k, v) | none => es ++ [(k, v)]
def delE (es : List (AV × AV)) (r : Option (Nat × AV)) : List (AV × AV) := match r with | some (i, _) => es.eraseIdx i | none => es
def aMapPut (T : Tab) [m : Mem] (t : TypeId) (x k v : AV) : Option St :=
  match T.ty t, x with
  | some (.map kt vt), .map id =>
    (keyD T kt k).bind fun d => if fits T vt v = true then (mapOf kt vt (.map id)).bind fun es => (findAV d k es 0).map fun r => m.st.set id (.map kt vt (putE es k v r)) else none
  | _, _ => none
def aMapDel (T : Tab) [m : Mem] (t : TypeId) (x k : AV) : Option St :=
  match T.ty t, x with
  | some (.map kt vt), .map id => (keyD T kt k).bind fun d => (mapOf kt vt (.map id)).bind fun es => (findAV d k es 0).map fun r => m.st.set id (.map kt vt (delE es r))
  | _, _ => none
def aMapClear (T : Tab) [m : Mem] (t : TypeId) (x : AV) : Option St :=
  match T.ty t, x with
  | some (.map kt vt), .map id => (mapOf kt vt (.map id)).map fun _ => m.st.set id (.map kt vt [])
  | _, _ => none
/-- A row that is cleared: numbers. -/
def aClearRow (T : Tab) [m : Mem] (t e : TypeId) (id : Nat) (path : List Nat) (off len : Nat) : Option St :=
  match T.ty t, T.ty e, T.zero e, path, m.st.obj id with
  | some (.slice e'), some (.int _), .int k n, [], some (.cells e'' vs) => if e' = e ∧ e'' = e ∧ 0 < len ∧ off + len ≤ vs.length then some (m.st.set id (.cells e (vs.take off ++ (List.replicate len (.int k n) ++ vs.drop (off + len))))) else none
  | _, _, _, _, _ => none
/-- What is appended: values without objects and tokens, if 'row' doesn't hold. -/
def newsOf (T : Tab) [m : Mem] (row : Bool) (e : TypeId) (x : AV) : Option (List AV) :=
  match x with
  | .str s => if T.ty e = some (.int .u8) then some (bytesAV s) else none
  | .list e' _ xs _ => if e' = e then some xs else none
  | .mt _ => some []
  | .view e' _ _ _ _ => if e' = e then (sliceOf x).bind fun ys => if row || pureL ys then some ys else none else none
  | _ => none
def most : Nat := 200000000000000
def roomy (T : Tab) (e : TypeId) (n : Nat) : Bool := decide (n ≤ most) && decide (n * T.bytes e ≤ most)
def aAppend (T : Tab) [mr : Mem] [m : Mem] (row : Bool) (t : TypeId) (s x : AV) : Option (AV × St) :=
  match T.ty t with
  | some (.slice e) =>
    match s with
    | .mt b =>
      (@newsOf T mr row e x).bind fun ys =>
      if roomy T e ys.length = true then
        if row then (if ys.isEmpty then none else some (.view e m.st.next [] 0 ys.length, m.st.new (.cells e ys)))
        else some (.list e (b && ys.isEmpty) ys (some (m.st.ntok + 1)), m.st.tokNew none)
      else none
    | .list e' b xs (some 0) =>
      (@newsOf T mr (row && xs.isEmpty) e x).bind fun ys =>
      if e' = e ∧ roomy T e (xs.length + ys.length) = true then
        if (row && xs.isEmpty && !ys.isEmpty) = true then some (.view e m.st.next [] 0 ys.length, m.st.new (.cells e ys))
        else some (.list e (b && ys.isEmpty) (xs ++ ys) (some (m.st.ntok + 1)), m.st.tokNew none)
      else none
    | .list e' b xs (some (tok + 1)) =>
      (@newsOf T mr false e x).bind fun ys =>
      if e' = e ∧ m.st.live tok = true ∧ roomy T e (xs.length + ys.length) = true then
        some (.list e (b && ys.isEmpty) (xs ++ ys) (some (m.st.ntok + 1)), m.st.tokNew (some tok))
      else none
    | _ => none
  | _ => none
def isRowT (T : Tab) (t : TypeId) : Bool := match T.ty t with | some (.slice _) | some .str => true | _ => false
def aMinMax (max : Bool) : List AV → Option AV
  | [] => none
  | .int k n :: r => go k n r
  | _ => none
where go (k : IntKind) (n : Int) : List AV → Option AV
  | [] => some (.int k n)
  | .int k' m :: r => if k = k' then go k (if max then (if m > n then m else n) else (if m < n then m else n)) r else none
  | _ => none

/- A value that a call of a function of values is handed: what it reads. -/
mutual
def freeze (σ : St) : AV → Option AV
  | .view e id path off len => (@sliceOf ⟨σ⟩ (.view e id path off len)).bind fun xs => if pureL xs then some (.list e false xs none) else none
  | .list e n xs tok => some (.list e n xs (if fullT tok then tok else none))
  | .agg t vs => (freezeL σ vs).map (.agg t)
  | .fptr t v => some (.fptr t v)
  | .bool b => some (.bool b)
  | .int k n => some (.int k n)
  | .str s => some (.str s)
  | .mt b => some (.mt b)
  | .nilp => some .nilp
  | .nilf => some .nilf
  | .nilm => some .nilm
  | .nili => some .nili
  | _ => none
def freezeL (σ : St) : List AV → Option (List AV)
  | [] => some []
  | v :: vs => match freeze σ v, freezeL σ vs with | some u, some us => some (u :: us) | _, _ => none
end
/- An argument: slices' tokens are forgotten. -/
mutual
def strip : AV → AV
  | .agg t vs => .agg t (stripL vs)
  | .list e n xs _ => .list e n xs none
  | v => v
def stripL : List AV → List AV
  | [] => []
  | v :: vs => strip v :: stripL vs
end
mutual
def viewIds : AV → List Nat
  | .view _ id _ _ _ => [id]
  | .agg _ vs => viewIdsL vs
  | _ => []
def viewIdsL : List AV → List Nat
  | [] => []
  | v :: vs => viewIds v ++ viewIdsL vs
end
def killAll (σ : St) : List Nat → St
  | [] => σ
  | i :: r => killAll (σ.kill i) r
/-- What a function of values hands back: the first result alone may be appended to. -/
def retV1 (σ : St) : AV → Option AV
  | .list e n xs (some (t + 1)) => some (.list e n xs (if σ.live t then some 1 else none))
  | v => freeze σ v
def retV (σ : St) : AV → Option AV
  | .tup (v :: vs) => match retV1 σ v, freezeL σ vs with | some u, some us => some (.tup (u :: us)) | _, _ => none
  | .tup [] => some (.tup [])
  | v => retV1 σ v
/-- The state behind a call of a function of values: the result's token. -/
def valSt1 : AV → St
  | .list _ _ _ (some (_ + 1)) => ⟨fun _ => none, 0, fun i => i == 0, 1⟩
  | _ => St.empty
def valSt : AV → St
  | .tup (v :: _) => valSt1 v
  | v => valSt1 v
def retok1 (σ' σ : St) : AV → Option (AV × St)
  | .list e n xs (some (t + 1)) => if σ'.live t = true then some (.list e n xs (some (σ.ntok + 1)), σ.tokNew none) else none
  | v => if pure1 v = true then some (v, σ) else none
def retok (σ' σ : St) : AV → Option (AV × St)
  | .tup (v :: vs) => if pureL vs = true then (retok1 σ' σ v).map fun p => (.tup (p.1 :: vs), p.2) else none
  | v => retok1 σ' σ v
abbrev Caller := FuncId → List AV → St → Option (AV × St)
def noPtr : List AV → Bool | .ptr _ _ _ :: _ => false | .agg _ (.ptr _ _ _ :: _) :: _ => false | _ => true
/-- What a pointer leads to. -/
def peekAt (σ : St) (id : Nat) (p : List Nat) : Option AV := match σ.obj id with | some (.cells _ vs) => rowAt vs p | _ => none
/-- A call of a function of values; its first argument may be a pointer, or a struct whose first field is one, if what it hands back has no memory: it is handed one to what lies there. -/
def callVal (call : Caller) (q : Bool) [mr : Mem] [m : Mem] (g : FuncId) (args : List AV) : Option (AV × St) :=
  if noPtr args = true then
    (freezeL mr.st args).bind fun us => (call g (stripL us) St.empty).bind fun p =>
    if noMem p.1 = true then some (p.1, m.st)
    else if q = true then none
    else retok p.2 (killAll m.st (viewIdsL args)) p.1
  else match args with
  | .ptr t id path :: rest =>
    ((peekAt mr.st id path).bind fun x => freeze mr.st x).bind fun u => (freezeL mr.st rest).bind fun us => (call g (.fptr t u :: stripL us) St.empty).bind fun p =>
    if noMem p.1 = true then some (p.1, m.st) else none
  | .agg ta (.ptr t id path :: fs) :: rest =>
    ((peekAt mr.st id path).bind fun x => freeze mr.st x).bind fun u => (freezeL mr.st fs).bind fun gs => (freezeL mr.st rest).bind fun us => (call g (.agg ta (.fptr t u :: stripL gs) :: stripL us) St.empty).bind fun p =>
    if noMem p.1 = true then some (p.1, m.st) else none
  | _ => none

/-- An argument of a call that is no function's of values, and ends the rows that it is handed: they are frozen. -/
def freezeN1 (σ : St) : AV → Option AV | .ptr t i p => some (.ptr t i p) | v => freeze σ v
def freezeN (σ : St) : List AV → Option (List AV)
  | [] => some []
  | v :: vs => (freezeN1 σ v).bind fun u => (freezeN σ vs).map fun us => u :: us
def callNv (C : Cfg) (call : Caller) (g : FuncId) (args : List AV) [m : Mem] : Option (AV × St) :=
  if C.kills g = true then (freezeN m.st args).bind fun us => call g us (killAll m.st (viewIdsL args)) else call g args m.st
def pureR : AV → Bool | .tup vs => pureL vs | v => pure1 v
/-- A call of a function of values whose result may have memory, but nothing that is appended to: no order of evaluation matters. -/
def callCalm (call : Caller) [mr : Mem] [m : Mem] (g : FuncId) (args : List AV) : Option (AV × St) :=
  if (noPtr args && (viewIdsL args).isEmpty) = true then (freezeL mr.st args).bind fun us => (call g (stripL us) St.empty).bind fun p => if pureR p.1 = true then some (p.1, m.st) else none
  else none
/-- May a value be captured? -/
def capOk : AV → Bool | .undef | .tup _ | .agg .. => false | _ => true
/-- an operation's value, in the state that is -/
def keepS (σ : St) (x : Option AV) : Option (AV × St) := match x with | some v => some (v, σ) | none => none
@[go_sem] theorem keepS_some (σ : St) (v : AV) : keepS σ (some v) = some (v, σ) := nr rfl
/-- Is an operation's row one that is written? -/
def rowD (C : Cfg) (f : FuncId) (dst : Option Tmp) : Bool := match dst with | some d => C.row f d | none => false
def evalBuiltin (C : Cfg) (f : FuncId) (q : Bool) [mr : Mem] [m : Mem] (dst : Option Tmp) (b : Builtin) (tys : List TypeId) (args : List AV) : Option (AV × St) :=
  match b, tys, args with
  | .len, [t], [x] => keepS m.st (@aLen C.T mr t x)
  | .append, [t, tx], [s, x] =>
    match s with
    | .view .. => none
    | _ => if isRowT C.T tx = true then (if q = true then none else @aAppend C.T mr m (rowD C f dst) t s x) else none
  | .delete, [t, _], [x, k] => if q = true then none else (@aMapDel C.T m t x k).map fun σ' => (.tup [], σ')
  | .clear, [t], [x] => if q = true then none else (match x with | .view e id path off len => @aClearRow C.T m t e id path off len | x => @aMapClear C.T m t x).map fun σ' => (.tup [], σ')
  | .min, _, args => keepS m.st (aMinMax false args)
  | .max, _, args => keepS m.st (aMinMax true args)
  | _, _, _ => none

def rowO (C : Cfg) (f : FuncId) (o : Oper) : Bool := rowD C f o.dst
def operTys (c : Call) : List TypeId := c.argTypes.toList
def evalOp (C : Cfg) (call : Caller) (f : FuncId) (q : Bool) (ρ : Env) (σr σ : St) (o : Oper) : Option (AV × St) :=
  match o.op with
  | .move x => some (val ρ x, σ)
  | .assign x => some (val ρ x, σ)
  | .pick c a b => match val ρ c with | .bool t => some (if t then val ρ a else val ρ b, σ) | _ => none
  | .alloc e => if fits C.T e (C.T.zero e) then some (.ptr e σ.next [0], σ.new (.cells e [C.T.zero e])) else none
  | .box e x => if fits C.T e (val ρ x) then some (.ptr e σ.next [0], σ.new (.cells e [val ρ x])) else none
  | .build t parts => keepS σ (aBuild C.T t (parts.toList.map fun (i, x) => (i, val ρ x)))
  | .buildSlice t n parts =>
    match C.T.ty t with
    | some (.slice e) =>
      if n ≤ 1000 ∧ C.T.size e ≤ 10000 then
        (fillA C.T (List.replicate n e) (List.replicate n (C.T.zero e)) (parts.toList.map fun (i, x) => (i, val ρ x))).bind fun xs =>
        if rowO C f o = true then (if q = true then none else some (.view e σ.next [] 0 n, σ.new (.cells e xs)))
        else if pureL (normL C.T (List.replicate n e) xs) then some (.list e false (normL C.T (List.replicate n e) xs) (some 0), σ) else none
      else none
    | _ => none
  | .load t a => keepS σ (@aLoad C.T ⟨σr⟩ t (val ρ a))
  | .store t a x => if q then none else (@aStore C.T ⟨σ⟩ t (val ρ a) (val ρ x)).map fun σ' => (.tup [], σ')
  | .nilCheck x => keepS σ (aNilCheck (val ρ x))
  | .binOp op t x y _ => keepS σ (aBin C.T op t (val ρ x) (val ρ y))
  | .unOp op _ x => keepS σ (aUn op (val ρ x))
  | .convert s d x => keepS σ (@aConvert C.T ⟨σr⟩ s d (val ρ x))
  | .makeFunc (.func g) first caps => if first.isEmpty && (caps.toList.all fun x => capOk (val ρ x)) then some (.func g (caps.toList.map (val ρ)), σ) else none
  | .makeSlice t l c =>
    match C.T.ty t, val ρ l, val ρ c with
    | some (.slice e), .int _ n, .int _ m =>
      if 0 ≤ n ∧ n = m ∧ n.toNat * C.T.bytes e ≤ most ∧ n ≤ most then
        if rowO C f o = true then (if q = true then none else some (.view e σ.next [] 0 n.toNat, σ.new (.cells e (List.replicate n.toNat (C.T.zero e)))))
        else if pure1 (C.T.zero e) then some (.list e false (List.replicate n.toNat (C.T.zero e)) (some 0), σ) else none
      else none
    | _, _, _ => none
  | .slice t x lo hi mx => keepS σ (aSlice C.T t (val ρ x) (lo.map (val ρ)) (hi.map (val ρ)) (mx.map (val ρ)))
  | .fieldAddr t x i => keepS σ (aFieldAddr C.T t (val ρ x) i)
  | .field t x i => keepS σ (aField C.T t (val ρ x) i)
  | .indexAddr t x i => keepS σ (aIndexAddr C.T t (val ρ x) (val ρ i))
  | .index t x i => keepS σ (aIndex C.T t (val ρ x) (val ρ i))
  | .extract x i => match val ρ x with | .tup vs => keepS σ vs[i]? | _ => none
  | .makeMap t none => match C.T.ty t with | some (.map k v) => some (.map σ.next, σ.new (.map k v [])) | _ => none
  | .lookup t x i ok => keepS σ (@aLookup C.T ⟨σr⟩ t (val ρ x) (val ρ i) ok)
  | .mapUpdate t x i v => if q then none else (@aMapPut C.T ⟨σ⟩ t (val ρ x) (val ρ i) (val ρ v)).map fun σ' => (.tup [], σ')
  | .insert t x i v => if q then none else (@aMapPut C.T ⟨σ⟩ t (val ρ x) (val ρ i) (val ρ v)).map fun σ' => (.tup [], σ')
  | .call c =>
    match c.callee with
    | .builtin b => @evalBuiltin C f q ⟨σr⟩ ⟨σ⟩ o.dst b c.argTypes.toList (c.args.toList.map (val ρ))
    | .value g =>
      match val ρ g with
      | .func g caps =>
        if g < 1000000 then
          if rowO C f o = true then (if q = true then none else if C.isVal (g + 1000000) = true then none else call (g + 1000000) (c.args.toList.map (val ρ) ++ caps) σ)
          else if C.isVal g then (if (q && C.calm g) = true then @callCalm call ⟨σr⟩ ⟨σ⟩ g (c.args.toList.map (val ρ) ++ caps) else @callVal call q ⟨σr⟩ ⟨σ⟩ g (c.args.toList.map (val ρ) ++ caps))
          else if q then none else @callNv C call g (c.args.toList.map (val ρ) ++ caps) ⟨σ⟩
        else none
      | _ => none
    | _ => none
  | _ => none


/-- Is an operation wanted? -/
def wantedA (ops : Array Oper) (ρ : Env) (o : Oper) : Option Bool :=
  match o.guard with
  | none => some true
  | some (j, want) =>
    match (ops[j]?).bind (·.dst) with
    | none => some false
    | some t => match ρ t with | .bool b => some (b == want) | .tup _ => some false | _ => none
def putA (ρ : Env) (dst : Option Tmp) (v : AV) : Env := match dst with | some d => upd ρ d v | none => ρ

inductive Ex where | normal | exit (id : Nat) | ret
  deriving DecidableEq

section
variable {α R : Type}
/- the walk's joints: of each of them simp looks at the first part alone (what follows stands as an instance) -/
class Lz (R : Type) where get : Option R
class Kt (α R : Type) where go : α → Option R
def bnd (x : Option α) [k : Kt α R] : Option R := match x with | some a => k.go a | none => none
@[go_sem ↓] theorem bnd_some (a : α) (k : α → Option R) : @bnd α R (some a) ⟨k⟩ = k a := nr rfl
@[go_sem ↓] theorem bnd_none (k : Kt α R) : @bnd α R none k = none := nr rfl
def br (t : Bool) [x : Lz R] [y : Lz R] : Option R := if t = true then x.get else y.get
@[go_sem ↓] theorem br_true (x : Option R) (y : Lz R) : @br R true ⟨x⟩ y = x := nr rfl
@[go_sem ↓] theorem br_false (x : Lz R) (y : Option R) : @br R false x ⟨y⟩ = y := nr rfl
def brV (v : AV) [x : Lz R] [y : Lz R] : Option R := match v with | .bool t => @br R t x y | _ => none
@[go_sem ↓] theorem brV_bool (t : Bool) (x y : Lz R) : @brV R (.bool t) x y = @br R t x y := nr rfl
def sel (t : Option Bool) [x : Lz R] [y : Lz R] : Option R := match t with | some true => x.get | some false => y.get | none => none
@[go_sem ↓] theorem sel_true (x : Option R) (y : Lz R) : @sel R (some true) ⟨x⟩ y = x := nr rfl
@[go_sem ↓] theorem sel_false (x : Lz R) (y : Option R) : @sel R (some false) x ⟨y⟩ = y := nr rfl
def nx (e : Ex) [x : Lz R] [y : Lz R] : Option R := match e with | .normal => x.get | _ => y.get
@[go_sem ↓] theorem nx_normal (x : Option R) (y : Lz R) : @nx R .normal ⟨x⟩ y = x := nr rfl
@[go_sem ↓] theorem nx_exit (i : Nat) (x : Lz R) (y : Option R) : @nx R (.exit i) x ⟨y⟩ = y := nr rfl
@[go_sem ↓] theorem nx_ret (x : Lz R) (y : Option R) : @nx R .ret x ⟨y⟩ = y := nr rfl
def blk (id : Nat) (e : Ex) : Ex := match e with | .exit i => if i = id then .normal else .exit i | e => e
@[go_sem] theorem blk_normal (id : Nat) : blk id .normal = .normal := nr rfl
@[go_sem] theorem blk_ret (id : Nat) : blk id .ret = .ret := nr rfl
@[go_sem] theorem blk_exit (id i : Nat) : blk id (.exit i) = if i = id then .normal else .exit i := nr rfl

end
section
variable {R : Type} (C : Cfg) (call : Caller) (f : FuncId) (q : Bool) (ρ : Env) (σr σ : St) (d : Option Tmp) (ty : TypeId) (pos : String) (af : Array Edge) (gd : Option (Nat × Bool)) (k : AV × St → Option R)
theorem keep_bnd (x : Option AV) : @bnd _ R (keepS σ x) ⟨k⟩ = @bnd _ R x ⟨fun v => k (v, σ)⟩ := by cases x <;> rfl
@[go_sem ↓] theorem ev_move (x : Operand) : @bnd _ R (evalOp C call f q ρ σr σ ⟨d, .move x, ty, pos, af, gd⟩) ⟨k⟩ = @bnd _ R (some (val ρ x)) ⟨fun v => k (v, σ)⟩ := nr rfl
@[go_sem ↓] theorem ev_assign (x : Operand) : @bnd _ R (evalOp C call f q ρ σr σ ⟨d, .assign x, ty, pos, af, gd⟩) ⟨k⟩ = @bnd _ R (some (val ρ x)) ⟨fun v => k (v, σ)⟩ := nr rfl
def pickV (v a b : AV) : Option AV := match v with | .bool t => some (if t = true then a else b) | _ => none
@[go_sem] theorem pickV_true (a b : AV) : pickV (.bool true) a b = some a := nr rfl
@[go_sem] theorem pickV_false (a b : AV) : pickV (.bool false) a b = some b := nr rfl
@[go_sem ↓] theorem ev_pick (c a b : Operand) : @bnd _ R (evalOp C call f q ρ σr σ ⟨d, .pick c a b, ty, pos, af, gd⟩) ⟨k⟩ = @bnd _ R (pickV (val ρ c) (val ρ a) (val ρ b)) ⟨fun v => k (v, σ)⟩ := by
  simp only [evalOp, pickV]; cases val ρ c <;> rfl
def ok? (b : Bool) : Option Unit := if b = true then some () else none
@[go_sem] theorem ok_true : ok? true = some () := nr rfl
@[go_sem ↓] theorem ev_alloc (e : TypeId) : @bnd _ R (evalOp C call f q ρ σr σ ⟨d, .alloc e, ty, pos, af, gd⟩) ⟨k⟩ = @bnd _ R (ok? (fits C.T e (C.T.zero e))) ⟨fun _ => k (.ptr e σ.next [0], σ.new (.cells e [C.T.zero e]))⟩ := by
  simp only [evalOp, ok?]; by_cases h : fits C.T e (C.T.zero e) = true <;> simp [h, bnd]
def fitV (T : Tab) (e : TypeId) (v : AV) : Option AV := if fits T e v = true then some v else none
@[go_sem ↓] theorem ev_box (e : TypeId) (x : Operand) : @bnd _ R (evalOp C call f q ρ σr σ ⟨d, .box e x, ty, pos, af, gd⟩) ⟨k⟩ = @bnd _ R (fitV C.T e (val ρ x)) ⟨fun v => k (.ptr e σ.next [0], σ.new (.cells e [v]))⟩ := by
  simp only [evalOp, fitV]; by_cases h : fits C.T e (val ρ x) = true <;> simp [h, bnd]
@[go_sem ↓] theorem ev_build (t : TypeId) (parts : Array (Nat × Operand)) : @bnd _ R (evalOp C call f q ρ σr σ ⟨d, .build t parts, ty, pos, af, gd⟩) ⟨k⟩ = @bnd _ R (aBuild C.T t (parts.toList.map fun (i, x) => (i, val ρ x))) ⟨fun v => k (v, σ)⟩ := keep_bnd σ k _
@[go_sem ↓] theorem ev_load (t : TypeId) (a : Operand) : @bnd _ R (evalOp C call f q ρ σr σ ⟨d, .load t a, ty, pos, af, gd⟩) ⟨k⟩ = @bnd _ R (@aLoad C.T ⟨σr⟩ t (val ρ a)) ⟨fun v => k (v, σ)⟩ := keep_bnd σ k _
@[go_sem ↓] theorem ev_store (t : TypeId) (a x : Operand) : @bnd _ R (evalOp C call f false ρ σr σ ⟨d, .store t a x, ty, pos, af, gd⟩) ⟨k⟩ = @bnd _ R (@aStore C.T ⟨σ⟩ t (val ρ a) (val ρ x)) ⟨fun σ => k (.tup [], σ)⟩ := by
  simp only [evalOp, Bool.false_eq_true, if_false]; cases @aStore C.T ⟨σ⟩ t (val ρ a) (val ρ x) <;> rfl
@[go_sem ↓] theorem ev_nilCheck (x : Operand) : @bnd _ R (evalOp C call f q ρ σr σ ⟨d, .nilCheck x, ty, pos, af, gd⟩) ⟨k⟩ = @bnd _ R (aNilCheck (val ρ x)) ⟨fun v => k (v, σ)⟩ := keep_bnd σ k _
@[go_sem ↓] theorem ev_binOp (op : BinOp) (t u : TypeId) (x y : Operand) : @bnd _ R (evalOp C call f q ρ σr σ ⟨d, .binOp op t x y u, ty, pos, af, gd⟩) ⟨k⟩ = @bnd _ R (aBin C.T op t (val ρ x) (val ρ y)) ⟨fun v => k (v, σ)⟩ := keep_bnd σ k _
@[go_sem ↓] theorem ev_unOp (op : UnOp) (t : TypeId) (x : Operand) : @bnd _ R (evalOp C call f q ρ σr σ ⟨d, .unOp op t x, ty, pos, af, gd⟩) ⟨k⟩ = @bnd _ R (aUn op (val ρ x)) ⟨fun v => k (v, σ)⟩ := keep_bnd σ k _
@[go_sem ↓] theorem ev_convert (s t : TypeId) (x : Operand) : @bnd _ R (evalOp C call f q ρ σr σ ⟨d, .convert s t x, ty, pos, af, gd⟩) ⟨k⟩ = @bnd _ R (@aConvert C.T ⟨σr⟩ s t (val ρ x)) ⟨fun v => k (v, σ)⟩ := keep_bnd σ k _
@[go_sem ↓] theorem ev_slice (t : TypeId) (x : Operand) (lo hi mx : Option Operand) : @bnd _ R (evalOp C call f q ρ σr σ ⟨d, .slice t x lo hi mx, ty, pos, af, gd⟩) ⟨k⟩ = @bnd _ R (aSlice C.T t (val ρ x) (lo.map (val ρ)) (hi.map (val ρ)) (mx.map (val ρ))) ⟨fun v => k (v, σ)⟩ := keep_bnd σ k _
@[go_sem ↓] theorem ev_fieldAddr (t : TypeId) (x : Operand) (i : Nat) : @bnd _ R (evalOp C call f q ρ σr σ ⟨d, .fieldAddr t x i, ty, pos, af, gd⟩) ⟨k⟩ = @bnd _ R (aFieldAddr C.T t (val ρ x) i) ⟨fun v => k (v, σ)⟩ := keep_bnd σ k _
@[go_sem ↓] theorem ev_field (t : TypeId) (x : Operand) (i : Nat) : @bnd _ R (evalOp C call f q ρ σr σ ⟨d, .field t x i, ty, pos, af, gd⟩) ⟨k⟩ = @bnd _ R (aField C.T t (val ρ x) i) ⟨fun v => k (v, σ)⟩ := keep_bnd σ k _
@[go_sem ↓] theorem ev_indexAddr (t : TypeId) (x i : Operand) : @bnd _ R (evalOp C call f q ρ σr σ ⟨d, .indexAddr t x i, ty, pos, af, gd⟩) ⟨k⟩ = @bnd _ R (aIndexAddr C.T t (val ρ x) (val ρ i)) ⟨fun v => k (v, σ)⟩ := keep_bnd σ k _
@[go_sem ↓] theorem ev_index (t : TypeId) (x i : Operand) : @bnd _ R (evalOp C call f q ρ σr σ ⟨d, .index t x i, ty, pos, af, gd⟩) ⟨k⟩ = @bnd _ R (aIndex C.T t (val ρ x) (val ρ i)) ⟨fun v => k (v, σ)⟩ := keep_bnd σ k _
def extractV (v : AV) (i : Nat) : Option AV := match v with | .tup vs => vs[i]? | _ => none
@[go_sem] theorem extractV_tup (vs : List AV) (i : Nat) : extractV (.tup vs) i = vs[i]? := nr rfl
@[go_sem ↓] theorem ev_extract (x : Operand) (i : Nat) : @bnd _ R (evalOp C call f q ρ σr σ ⟨d, .extract x i, ty, pos, af, gd⟩) ⟨k⟩ = @bnd _ R (extractV (val ρ x) i) ⟨fun v => k (v, σ)⟩ := by
  simp only [evalOp, extractV]; cases val ρ x <;> first | rfl | exact keep_bnd σ k _
@[go_sem ↓] theorem ev_lookup (t : TypeId) (x i : Operand) (ok : Bool) : @bnd _ R (evalOp C call f q ρ σr σ ⟨d, .lookup t x i ok, ty, pos, af, gd⟩) ⟨k⟩ = @bnd _ R (@aLookup C.T ⟨σr⟩ t (val ρ x) (val ρ i) ok) ⟨fun v => k (v, σ)⟩ := keep_bnd σ k _
def mapTy (T : Tab) (t : TypeId) : Option (TypeId × TypeId) := match T.ty t with | some (.map k v) => some (k, v) | _ => none
@[go_sem ↓] theorem ev_makeMap (t : TypeId) : @bnd _ R (evalOp C call f q ρ σr σ ⟨d, .makeMap t none, ty, pos, af, gd⟩) ⟨k⟩ = @bnd _ R (mapTy C.T t) ⟨fun p => k (.map σ.next, σ.new (.map p.1 p.2 []))⟩ := by
  simp only [evalOp, mapTy]; split <;> rfl
@[go_sem ↓] theorem ev_mapUpdate (t : TypeId) (x i v : Operand) : @bnd _ R (evalOp C call f false ρ σr σ ⟨d, .mapUpdate t x i v, ty, pos, af, gd⟩) ⟨k⟩ = @bnd _ R (@aMapPut C.T ⟨σ⟩ t (val ρ x) (val ρ i) (val ρ v)) ⟨fun σ => k (.tup [], σ)⟩ := by
  simp only [evalOp, Bool.false_eq_true, if_false]; cases @aMapPut C.T ⟨σ⟩ t (val ρ x) (val ρ i) (val ρ v) <;> rfl
@[go_sem ↓] theorem ev_insert (t : TypeId) (x i v : Operand) : @bnd _ R (evalOp C call f false ρ σr σ ⟨d, .insert t x i v, ty, pos, af, gd⟩) ⟨k⟩ = @bnd _ R (@aMapPut C.T ⟨σ⟩ t (val ρ x) (val ρ i) (val ρ v)) ⟨fun σ => k (.tup [], σ)⟩ := by
  simp only [evalOp, Bool.false_eq_true, if_false]; cases @aMapPut C.T ⟨σ⟩ t (val ρ x) (val ρ i) (val ρ v) <;> rfl
@[go_sem ↓] theorem ev_builtin (b : Builtin) (args : Array Operand) (tys : Array TypeId) : @bnd _ R (evalOp C call f q ρ σr σ ⟨d, .call ⟨.builtin b, args, tys⟩, ty, pos, af, gd⟩) ⟨k⟩ = @bnd _ R (@evalBuiltin C f q ⟨σr⟩ ⟨σ⟩ d b tys.toList (args.toList.map (val ρ))) ⟨k⟩ := nr rfl
/-- a call; where its result is a row that is written, of the function's other form (its number, and 1000000) -/
def callA (rw : Bool) (v : AV) (args : List AV) [mr : Mem] [m : Mem] : Option (AV × St) :=
  match v with
  | .func g caps =>
    if g < 1000000 then
      if rw = true then (if q = true then none else if C.isVal (g + 1000000) = true then none else call (g + 1000000) (args ++ caps) m.st)
      else if C.isVal g then (if (q && C.calm g) = true then @callCalm call mr m g (args ++ caps) else @callVal call q mr m g (args ++ caps)) else if q then none else @callNv C call g (args ++ caps) m
    else none
  | _ => none
@[go_sem ↓] theorem ev_call (v : Operand) (args : Array Operand) (tys : Array TypeId) : @bnd _ R (evalOp C call f q ρ σr σ ⟨d, .call ⟨.value v, args, tys⟩, ty, pos, af, gd⟩) ⟨k⟩ = @bnd _ R (@callA C call q (rowD C f d) (val ρ v) (args.toList.map (val ρ)) ⟨σr⟩ ⟨σ⟩) ⟨k⟩ := by
  simp only [evalOp, callA, rowO]
end
section
variable {R : Type}
def evalOps (C : Cfg) (call : Caller) (f : FuncId) (ops : Array Oper) : List Oper → Env → St → (Env → St → Option R) → Option R
  | [], ρ, σ, k => k ρ σ
  | o :: rest, ρ, σ, k =>
    @sel R (wantedA ops ρ o) ⟨@bnd _ R (evalOp C call f false ρ σ σ o) ⟨fun p => evalOps C call f ops rest (putA ρ o.dst p.1) p.2 k⟩⟩ ⟨evalOps C call f ops rest (putA ρ o.dst (.tup [])) σ k⟩
/-- Does an operation look at, or turn, what is more than its operands? -/
def touches (o : Oper) : Bool :=
  match o.op with
  | .move _ | .assign _ | .pick .. | .build .. | .nilCheck _ | .binOp .. | .unOp .. | .makeFunc .. | .slice .. | .fieldAddr .. | .field .. | .indexAddr .. | .index .. | .extract .. => false
  | _ => true
def scalarT (T : Tab) (t : TypeId) : Bool := match T.ty t with | some .bool | some (.int _) | some .str => true | _ => false
/-- .. or a struct of such -/
def flatT (T : Tab) (t : TypeId) : Bool := match T.ty t with | some .bool | some (.int _) | some .str => true | some (.struct fs) => fs.all (scalarT T) | _ => false
/-- An operation that may turn what was before. -/
def turns (C : Cfg) (f : FuncId) (o : Oper) : Bool :=
  match o.op with
  | .store .. => true
  | .mapUpdate .. => true
  | .insert .. => true
  | .call c => match c.callee with | .value (.func g) => rowO C f o || !(C.peek g || C.isVal g && (flatT C.T o.type || !C.kills g)) | .builtin .delete | .builtin .clear => true | .builtin _ => false | _ => true
  | _ => false
/-- An operation that may change the interpreter's state. -/
def makes (C : Cfg) (f : FuncId) (o : Oper) : Bool :=
  turns C f o || match o.op with
  | .alloc _ | .box .. | .makeMap .. => true
  | .makeSlice .. | .buildSlice .. => rowO C f o
  | .call c => match c.callee with | .builtin .append => true | .value (.func g) => C.peek g || (!flatT C.T o.type && !C.calm g) | _ => false
  | _ => false
/-- A call of a function of values, in a region that draws, is handed no row that is written (if it isn't one of those that may). -/
def nvA (C : Cfg) (f : FuncId) (ρ : Env) (o : Oper) : Bool :=
  turns C f o || match o.op with
  | .call c => match c.callee with | .value (.func _) => (viewIdsL (c.args.toList.map (val ρ))).isEmpty | _ => true
  | _ => true
/-- A region that draws its order, of a form whose orders all come to one: each temporary is written once, ahead of what looks at it; what changes the state goes in one order. -/
def drawBase (C : Cfg) (f : FuncId) (ops : Array Oper) : Bool :=
  let l := ops.toList.zipIdx
  let b := Region.before ops
  l.all fun (o, i) =>
    (o.after.toList.all fun e => decide (e.on < i) || !Region.binds .any e) &&
    (l.all fun (o', j) =>
      (match o'.dst with
       | some d => (decide (i = j) || o.dst != some d) && (!(o.looksAt ops).contains d || (decide (j < i) && (b.getD i 0).testBit j) || (decide (i < j) && (b.getD j 0).testBit i))
       | none => true) &&
      (!makes C f o || !makes C f o' || !decide (j < i) || (b.getD i 0).testBit j))
/-- .. and what looks at more than its operands is ahead of what turns what was before, or behind it -/
def drawTurn (C : Cfg) (f : FuncId) (ops : Array Oper) : Bool :=
  let l := ops.toList.zipIdx
  let b := Region.before ops
  l.all fun (o, i) => l.all fun (o', j) => !turns C f o || decide (i = j) || !touches o' || makes C f o' || (decide (j < i) && (b.getD i 0).testBit j) || (decide (i < j) && (b.getD j 0).testBit i)
def drawOk (C : Cfg) (f : FuncId) (ops : Array Oper) : Bool := drawBase C f ops && drawTurn C f ops
/-- the object that a load, or a map's lookup, looks at -/
def lookAt (o : Oper) : Option Tmp := match o.op with | .load _ (.tmp t) => some t | .lookup _ (.tmp t) _ _ => some t | _ => none
/-- a region's stores, and where they store -/
def storeTs (ops : Array Oper) : List (Nat × Tmp) := ops.toList.zipIdx.filterMap fun (o, i) => match o.op with | .store _ (.tmp a) _ => some (i, a) | _ => none
/-- a temporary that nothing from i on writes -/
def early (ops : Array Oper) (i : Nat) (t : Tmp) : Bool := ops.toList.zipIdx.all fun (o', j) => o'.dst != some t || decide (j < i)
def ordered (ops : Array Oper) (i s : Nat) : Bool := ((Region.before ops).getD s 0).testBit i || ((Region.before ops).getD i 0).testBit s
def isTmp : Operand → Bool | .tmp _ => true | _ => false
def argTmps (c : Call) : List Tmp := c.args.toList.filterMap fun x => match x with | .tmp t => some t | _ => none
def minMax : Builtin → Bool | .min | .max => true | _ => false
/-- what may run beside a store: a load or a lookup (of another object), a call of values -/
def lookOk (C : Cfg) (f : FuncId) (ops : Array Oper) (o : Oper) (i : Nat) : Bool :=
  match lookAt o with
  | some t => early ops i t
  | none =>
    match o.op with
    | .call c =>
      match c.callee with
      | .builtin b => minMax b
      | .value (.func g) => C.isVal g && !rowO C f o && c.args.toList.all isTmp && (argTmps c).all (early ops i)
      | _ => false
    | _ => false
/-- .. or stores are all that changes the state, and what looks at more than its operands is ahead of them or behind them, or loads or looks a map up (another object: that is looked at as it runs), or calls a function of values -/
def drawAlias (C : Cfg) (f : FuncId) (ops : Array Oper) : Bool :=
  ops.toList.zipIdx.all fun (o, i) =>
    (!makes C f o || match o.op with | .store _ (.tmp a) _ => early ops i a | _ => false) &&
    (makes C f o || !touches o || lookOk C f ops o i || (storeTs ops).all fun (s, _) => ordered ops i s)
def drawOkA (C : Cfg) (f : FuncId) (ops : Array Oper) : Bool := drawBase C f ops && drawAlias C f ops
def tmpOf : Operand → Option Tmp | .tmp t => some t | _ => none
/-- .. or, at its end, two variables are made, in either order, and then written, one by one. -/
def freshF (ops : Array Oper) : Option (Tmp × TypeId × Operand × Tmp × TypeId × Operand) :=
  let p := ops.size - 4
  match ops[p]?, ops[p + 1]?, ops[p + 2]?, ops[p + 3]? with
  | some oa, some ob, some sa, some sb =>
    match oa.op, ob.op, sa.op, sb.op, oa.dst, ob.dst with
    | .alloc ea, .alloc eb, .store ta (.tmp xa) va, .store tb (.tmp xb) vb, some da, some db =>
      if (xa == da && xb == db && ta == ea && tb == eb && da != db && oa.guard.isNone && ob.guard.isNone && sa.guard.isNone && sb.guard.isNone && sa.dst.isNone && sb.dst.isNone && tmpOf va != some da && tmpOf va != some db && tmpOf vb != some da && tmpOf vb != some db) = true then some (da, ea, va, db, eb, vb) else none
    | _, _, _, _, _, _ => none
  | _, _, _, _ => none
def drawOkF (C : Cfg) (f : FuncId) (ops : Array Oper) : Bool :=
  match freshF ops with
  | none => false
  | some (da, _, _, db, _, _) =>
    let p := ops.size - 4
    let l := ops.toList.zipIdx
    let b := Region.before ops
    decide (4 ≤ ops.size) && (b.getD (p + 2) 0).testBit p && (b.getD (p + 2) 0).testBit (p + 1) && (b.getD (p + 3) 0).testBit p && (b.getD (p + 3) 0).testBit (p + 1) &&
    l.all fun (o, i) =>
      (o.after.toList.all fun e => decide (e.on < i) || !Region.binds .any e) &&
      (decide (p ≤ i) || (!makes C f o && !(o.looksAt ops).contains da && !(o.looksAt ops).contains db)) &&
      (l.all fun (o', j) =>
        match o'.dst with
        | some d => (decide (i = j) || o.dst != some d) && (!(o.looksAt ops).contains d || (decide (j < i) && (b.getD i 0).testBit j) || (decide (i < j) && (b.getD j 0).testBit i))
        | none => true)
def aliasOf (ops : Array Oper) (o : Oper) (i s : Nat) (a : Tmp) : List (Tmp × Tmp) :=
  if (decide (s = i) || !touches o || ordered ops i s) = true then [] else
  match lookAt o with
  | some t => [(a, t)]
  | none => match o.op with | .call c => (argTmps c).map fun t => (t, t) | _ => []
def aliasPairs (ops : Array Oper) : List (Tmp × Tmp) := ops.toList.zipIdx.flatMap fun (o, i) => (storeTs ops).flatMap fun (s, a) => aliasOf ops o i s a
def apart : AV → AV → Bool | .ptr _ i _, .ptr _ j _ => i != j | .ptr _ i _, .map j => i != j | _, _ => true
def aliasOk (l : List (Tmp × Tmp)) (ρ : Env) : Bool := l.all fun (a, t) => if a = t then pure1 (ρ a) else apart (ρ a) (ρ t)
def evalQ (C : Cfg) (call : Caller) (f : FuncId) (ops : Array Oper) (σ0 : St) : List Oper → Env → St → (Env → St → Option R) → Option R
  | [], ρ, σ, k => k ρ σ
  | o :: rest, ρ, σ, k =>
    @sel R (wantedA ops ρ o) ⟨@br R (makes C f o) ⟨@br R (nvA C f ρ o) ⟨@bnd _ R (evalOp C call f false ρ σ σ o) ⟨fun p => @br R (turns C f o) ⟨evalQ C call f ops p.2 rest (putA ρ o.dst p.1) p.2 k⟩ ⟨evalQ C call f ops σ0 rest (putA ρ o.dst p.1) p.2 k⟩⟩⟩ ⟨none⟩⟩ ⟨@bnd _ R (evalOp C call f true ρ σ0 σ o) ⟨fun p => evalQ C call f ops σ0 rest (putA ρ o.dst p.1) p.2 k⟩⟩⟩ ⟨@br R (turns C f o) ⟨evalQ C call f ops σ rest (putA ρ o.dst (.tup [])) σ k⟩ ⟨evalQ C call f ops σ0 rest (putA ρ o.dst (.tup [])) σ k⟩⟩
def iterK (B : Env → St → (Ex → Env → St → Option R) → Option R) : Nat → Env → St → (Ex → Env → St → Option R) → Option R
  | 0, _, _, _ => none
  | n + 1, ρ, σ, k => B ρ σ fun e ρ' σ' => @nx R e ⟨iterK B n ρ' σ' k⟩ ⟨k e ρ' σ'⟩
def evalCode (C : Cfg) (call : Caller) (f : FuncId) : Code → Env → St → (Ex → Env → St → Option R) → Option R
  | .skip, ρ, σ, k => k .normal ρ σ
  | .region _ ops draw, ρ, σ, k =>
    @br R draw ⟨@br R (drawOk C f ops) ⟨evalQ C call f ops σ ops.toList ρ σ (k .normal)⟩ ⟨@br R (drawOkA C f ops) ⟨evalQ C call f ops σ ops.toList ρ σ fun ρ' σ' => @br R (aliasOk (aliasPairs ops) ρ') ⟨k .normal ρ' σ'⟩ ⟨none⟩⟩ ⟨@br R (drawOkF C f ops) ⟨evalQ C call f ops σ ops.toList ρ σ (k .normal)⟩ ⟨none⟩⟩⟩⟩ ⟨evalOps C call f ops ops.toList ρ σ (k .normal)⟩
  | .seq a b, ρ, σ, k => evalCode C call f a ρ σ fun e ρ' σ' => @nx R e ⟨evalCode C call f b ρ' σ' k⟩ ⟨k e ρ' σ'⟩
  | .cond c a b, ρ, σ, k => @brV R (val ρ c) ⟨evalCode C call f a ρ σ k⟩ ⟨evalCode C call f b ρ σ k⟩
  | .block id a, ρ, σ, k => evalCode C call f a ρ σ fun e ρ' σ' => k (blk id e) ρ' σ'
  | .loop a, ρ, σ, k => iterK (fun ρ σ k => evalCode C call f a ρ σ k) C.M ρ σ k
  | .exit id, ρ, σ, k => k (.exit id) ρ σ
  | .ret, ρ, σ, k => k .ret ρ σ
  | _, _, _, _ => none
end
def dstOk (N : Nat) : Code → Bool
  | .region _ ops _ => ops.toList.all fun o => match o.dst with | some d => decide (d < N) | none => true
  | .seq a b => dstOk N a && dstOk N b
  | .cond _ a b => dstOk N a && dstOk N b
  | .block _ a => dstOk N a
  | .loop a => dstOk N a
  | .rangeFunc _ ps a b => ps.toList.all (fun d => decide (d < N)) && dstOk N a && dstOk N b
  | _ => true
def entryEnv (args : List AV) : Env := fun i => (args[i]?).getD (.tup [])
section
variable {R : Type}
/- loops over functions: the function that is ranged over is gone through, too; a call of what it is handed is a round -/
/-- A round: what is handed over, and the state; how it ends, and the state behind it. -/
abbrev Rnd (R : Type) := List AV → St → (Ex → St → Option R) → Option R
def mvY (Y : List Tmp) (o : Oper) : Bool := match o.op with | .move (.tmp s) => o.guard.isNone && Y.contains s | _ => false
def clY (Y : List Tmp) (o : Oper) : Bool := match o.op with | .call c => (match c.callee with | .value (.tmp s) => o.guard.isNone && Y.contains s | _ => false) | _ => false
def argsY (o : Oper) : List Operand := match o.op with | .call c => c.args.toList | _ => []
def dstY (Y : List Tmp) (o : Oper) : Bool := match o.dst with | some d => !Y.contains d | none => true
/-- Y: the temporaries that hold what is handed over; p: how a round ended that ended the loop. -/
def evalOpsY (C : Cfg) (call : Caller) (f : FuncId) (ops : Array Oper) (rd : Rnd R) : List Tmp → List Oper → Env → St → Option Ex → (Env → St → Option Ex → Option R) → Option R
  | _, [], ρ, σ, p, k => k ρ σ p
  | Y, o :: rest, ρ, σ, p, k =>
    @br R (dstY Y o) ⟨@br R (mvY Y o) ⟨evalOpsY C call f ops rd (o.dst.toList ++ Y) rest (putA ρ o.dst .undef) σ p k⟩
      ⟨@br R (clY Y o) ⟨@br R p.isNone ⟨rd ((argsY o).map (val ρ)) σ fun e σ' => @nx R e ⟨evalOpsY C call f ops rd Y rest (putA ρ o.dst (.bool true)) σ' none k⟩ ⟨evalOpsY C call f ops rd Y rest (putA ρ o.dst (.bool false)) σ' (some e) k⟩⟩ ⟨none⟩⟩
        ⟨@sel R (wantedA ops ρ o) ⟨@bnd _ R (evalOp C call f false ρ σ σ o) ⟨fun q => evalOpsY C call f ops rd Y rest (putA ρ o.dst q.1) q.2 p k⟩⟩ ⟨evalOpsY C call f ops rd Y rest (putA ρ o.dst (.tup [])) σ p k⟩⟩⟩⟩ ⟨none⟩
def iterY (B : Env → St → Option Ex → (Ex → Env → St → Option Ex → Option R) → Option R) : Nat → Env → St → Option Ex → (Ex → Env → St → Option Ex → Option R) → Option R
  | 0, _, _, _, _ => none
  | n + 1, ρ, σ, p, k => B ρ σ p fun e ρ' σ' p' => @nx R e ⟨iterY B n ρ' σ' p' k⟩ ⟨k e ρ' σ' p'⟩
def evalY (C : Cfg) (call : Caller) (f : FuncId) (rd : Rnd R) : Code → Env → St → Option Ex → (Ex → Env → St → Option Ex → Option R) → Option R
  | .skip, ρ, σ, p, k => k .normal ρ σ p
  | .region _ ops draw, ρ, σ, p, k => @br R draw ⟨none⟩ ⟨evalOpsY C call f ops rd [0] ops.toList ρ σ p (k .normal)⟩
  | .seq a b, ρ, σ, p, k => evalY C call f rd a ρ σ p fun e ρ' σ' p' => @nx R e ⟨evalY C call f rd b ρ' σ' p' k⟩ ⟨k e ρ' σ' p'⟩
  | .cond c a b, ρ, σ, p, k => @brV R (val ρ c) ⟨evalY C call f rd a ρ σ p k⟩ ⟨evalY C call f rd b ρ σ p k⟩
  | .block id a, ρ, σ, p, k => evalY C call f rd a ρ σ p fun e ρ' σ' p' => k (blk id e) ρ' σ' p'
  | .loop a, ρ, σ, p, k => iterY (fun ρ σ p k => evalY C call f rd a ρ σ p k) C.M ρ σ p k
  | .exit id, ρ, σ, p, k => k (.exit id) ρ σ p
  | .ret, ρ, σ, p, k => k .ret ρ σ p
  | _, _, _, _, _ => none
def putPs (ρ : Env) (ps : List Tmp) (args : List AV) : Env := (ps.zip args).foldl (fun ρ x => upd ρ x.1 x.2) ρ
/-- Code that a round may go through. -/
def plainR : Code → Bool
  | .region _ ops _ => ops.toList.all fun o => match o.op with | .defer _ => false | _ => true
  | .seq a b => plainR a && plainR b
  | .cond _ a b => plainR a && plainR b
  | .block _ a => plainR a
  | .skip | .exit _ | .ret => true
  | _ => false
def roundK (C : Cfg) (call : Caller) (f : FuncId) (ps : Array Tmp) (assign body : Code) (ρ : Env) : Rnd R := fun args σ kk =>
  @br R (decide (args.length = ps.size)) ⟨evalCode C call f assign (putPs ρ ps.toList args) σ fun e ρ1 σ1 => @nx R e ⟨evalCode C call f body ρ1 σ1 fun e _ σ2 => kk e σ2⟩ ⟨none⟩⟩ ⟨none⟩
def nextK (k : Ex → Env → St → Option R) (ρ : Env) (σ : St) (p : Option Ex) : Option R := match p with | none => k .normal ρ σ | some e => k e ρ σ
def backK (k : Ex → Env → St → Option R) (ρ : Env) : Ex → Env → St → Option Ex → Option R := fun e _ σ p => match e with | .exit _ => none | _ => nextK k ρ σ p
def iterFn (P : Program) (g : FuncId) : Option (Func × Code) := match P.funcs[g]? with | some fn => (match fn.body with | some b => some (fn, b) | none => none) | none => none
def evalR (P : Program) (C : Cfg) (call : Caller) (f : FuncId) : Code → Env → St → (Ex → Env → St → Option R) → Option R
  | .seq a b, ρ, σ, k => evalR P C call f a ρ σ fun e ρ' σ' => @nx R e ⟨evalR P C call f b ρ' σ' k⟩ ⟨k e ρ' σ'⟩
  | .cond c a b, ρ, σ, k => @brV R (val ρ c) ⟨evalR P C call f a ρ σ k⟩ ⟨evalR P C call f b ρ σ k⟩
  | .block id a, ρ, σ, k => evalR P C call f a ρ σ fun e ρ' σ' => k (blk id e) ρ' σ'
  | .loop a, ρ, σ, k => iterK (fun ρ σ k => evalR P C call f a ρ σ k) C.M ρ σ k
  | .rangeFunc g ps assign body, ρ, σ, k =>
    match val ρ g with
    | .func gf caps =>
      match iterFn P gf with
      | some (fn, fb) =>
        if (dstOk fn.ntmps fb && decide (caps.length + 1 ≤ fn.ntmps) && fn.name != "runtime.NumGoroutine" && fn.results.isEmpty && plainR assign && plainR body) = true then
          evalY C call gf (roundK C call f ps assign body ρ) fb (entryEnv (.undef :: caps)) σ none (backK k ρ)
        else none
      | none => none
    | _ => none
  | x, ρ, σ, k => evalCode C call f x ρ σ k
end
/-- Is there a loop over a function? -/
def hasR : Code → Bool
  | .seq a b => hasR a || hasR b
  | .cond _ a b => hasR a || hasR b
  | .block _ a => hasR a
  | .loop a => hasR a
  | .rangeFunc .. => true
  | _ => false
/-- A result: one value. -/
def compV : AV → Option AV | .undef | .tup _ => none | v => some v
def aResult (T : Tab) (ρ : Env) (σ : St) : ResultVar → Option AV
  | .tmp t => compV (ρ t)
  | .cell a t => (@aLoad T ⟨σ⟩ t (ρ a)).bind compV
def aResults (T : Tab) (ρ : Env) (σ : St) (rs : List ResultVar) : Option AV :=
  (rs.mapM (aResult T ρ σ)).map fun vs => match vs with | [v] => v | vs => .tup vs
/-- A body's end. -/
def retR (C : Cfg) (f : FuncId) (rs : List ResultVar) (σ0 : St) (ρ : Env) (σ : St) : Option (AV × St) :=
  @bnd _ _ (aResults C.T ρ σ rs) ⟨fun r => @br _ (C.isVal f) ⟨@bnd _ _ (retV σ r) ⟨fun r => some (r, valSt r)⟩⟩ ⟨some (r, if C.keep f = true then σ else σ.trim σ0.next)⟩⟩
def retK (C : Cfg) (f : FuncId) (fn : Func) (σ0 : St) (e : Ex) (ρ : Env) (σ : St) : Option (AV × St) :=
  match e with | .exit _ => none | _ => retR C f fn.results.toList σ0 ρ σ
@[go_sem ↓] theorem retK_normal (C : Cfg) (f : FuncId) (fn : Func) (σ0 : St) (ρ : Env) (σ : St) : retK C f fn σ0 .normal ρ σ = retR C f fn.results.toList σ0 ρ σ := nr rfl
@[go_sem ↓] theorem retK_ret (C : Cfg) (f : FuncId) (fn : Func) (σ0 : St) (ρ : Env) (σ : St) : retK C f fn σ0 .ret ρ σ = retR C f fn.results.toList σ0 ρ σ := nr rfl
def evalF (P : Program) (C : Cfg) : Nat → Caller
  | 0, _, _, _ => none
  | d + 1, f, args, σ =>
    match C.ext f with
    | some g => g args σ
    | none =>
      match P.funcs[f % 1000000]? with
      | some fn =>
        match fn.body with
        | some body =>
          if (dstOk fn.ntmps body && decide (args.length ≤ fn.ntmps) && fn.name != "runtime.NumGoroutine") = true then
            if hasR body = true then evalR P C (evalF P C d) f body (entryEnv args) σ (retK C f fn σ) else evalCode C (evalF P C d) f body (entryEnv args) σ (retK C f fn σ)
          else none
        | none => none
      | none => none
theorem evalF_succ (P : Program) (C : Cfg) {f : FuncId} {fn : Func} {body : Code} {N : Nat} {args : List AV} {σ : St} {d : Nat} (hx : C.ext f = none) (hf : P.funcs[f % 1000000]? = some fn) (hb : fn.body = some body) (hn : fn.ntmps = N) (hd : dstOk N body = true) (hm : (fn.name != "runtime.NumGoroutine") = true) (hr : hasR body = false) (ha : args.length ≤ N) :
    evalF P C (d + 1) f args σ = evalCode C (evalF P C d) f body (entryEnv args) σ (retK C f fn σ) := by
  subst hn
  simp only [evalF, hx, hf, hb, hd, ha, hm, hr, decide_true, Bool.and_self, if_true, Bool.false_eq_true, if_false]
theorem evalF_succR (P : Program) (C : Cfg) {f : FuncId} {fn : Func} {body : Code} {N : Nat} {args : List AV} {σ : St} {d : Nat} (hx : C.ext f = none) (hf : P.funcs[f % 1000000]? = some fn) (hb : fn.body = some body) (hn : fn.ntmps = N) (hd : dstOk N body = true) (hm : (fn.name != "runtime.NumGoroutine") = true) (hr : hasR body = true) (ha : args.length ≤ N) :
    evalF P C (d + 1) f args σ = evalR P C (evalF P C d) f body (entryEnv args) σ (retK C f fn σ) := by
  subst hn
  simp only [evalF, hx, hf, hb, hd, ha, hm, hr, decide_true, Bool.and_self, if_true]
end Go.Proofs.Yticlihmbikcohaa.Va
