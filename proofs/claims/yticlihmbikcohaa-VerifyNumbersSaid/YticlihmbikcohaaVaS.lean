/- rules by which a walk of the abstract interpreter goes on -/
import Derived.Test.YticlihmbikcohaaVa
namespace Go.Proofs.Yticlihmbikcohaa.Va
open Go
set_option linter.unusedVariables false
set_option linter.unusedSimpArgs false
/- the joint of an operation: its value and the state behind it (no pair is left standing) -/
section
variable {R : Type}
class Kt2 (R : Type) where go : AV → St → Option R
def bnd2 (x : Option (AV × St)) [k : Kt2 R] : Option R := match x with | some p => k.go p.1 p.2 | none => none
@[go_sem ↓] theorem bnd2_some (v : AV) (σ : St) (k : AV → St → Option R) : @bnd2 R (some (v, σ)) ⟨k⟩ = k v σ := nr rfl
@[go_sem ↓] theorem bnd2_none (k : Kt2 R) : @bnd2 R none k = none := nr rfl
theorem bnd2_of (x : Option (AV × St)) (k : AV → St → Option R) : @bnd2 R x ⟨k⟩ = @bnd _ R x ⟨fun p => k p.1 p.2⟩ := by cases x <;> rfl
end
section
variable {R : Type} (C : Cfg) (call : Caller) (f : FuncId) (q : Bool) (ρ : Env) (σr σ : St) (d : Option Tmp) (ty : TypeId) (pos : String) (af : Array Edge) (gd : Option (Nat × Bool)) (k : AV → St → Option R)
@[go_sem ↓] theorem ev_move2 (x : Operand) : @bnd2 R (evalOp C call f q ρ σr σ ⟨d, .move x, ty, pos, af, gd⟩) ⟨k⟩ = @bnd _ R (some (val ρ x)) ⟨fun v => k v σ⟩ := by simp only [bnd2_of]; exact ev_move (R := R) (k := (fun p => k p.1 p.2)) ..
@[go_sem ↓] theorem ev_assign2 (x : Operand) : @bnd2 R (evalOp C call f q ρ σr σ ⟨d, .assign x, ty, pos, af, gd⟩) ⟨k⟩ = @bnd _ R (some (val ρ x)) ⟨fun v => k v σ⟩ := by simp only [bnd2_of]; exact ev_assign (R := R) (k := (fun p => k p.1 p.2)) ..
@[go_sem ↓] theorem ev_pick2 (c a b : Operand) : @bnd2 R (evalOp C call f q ρ σr σ ⟨d, .pick c a b, ty, pos, af, gd⟩) ⟨k⟩ = @bnd _ R (pickV (val ρ c) (val ρ a) (val ρ b)) ⟨fun v => k v σ⟩ := by simp only [bnd2_of]; exact ev_pick (R := R) (k := (fun p => k p.1 p.2)) ..
@[go_sem ↓] theorem ev_alloc2 (e : TypeId) : @bnd2 R (evalOp C call f q ρ σr σ ⟨d, .alloc e, ty, pos, af, gd⟩) ⟨k⟩ = @bnd _ R (ok? (fits C.T e (C.T.zero e))) ⟨fun _ => k (.ptr e σ.next [0]) (σ.new (.cells e [C.T.zero e]))⟩ := by simp only [bnd2_of]; exact ev_alloc (R := R) (k := (fun p => k p.1 p.2)) ..
@[go_sem ↓] theorem ev_box2 (e : TypeId) (x : Operand) : @bnd2 R (evalOp C call f q ρ σr σ ⟨d, .box e x, ty, pos, af, gd⟩) ⟨k⟩ = @bnd _ R (fitV C.T e (val ρ x)) ⟨fun v => k (.ptr e σ.next [0]) (σ.new (.cells e [v]))⟩ := by simp only [bnd2_of]; exact ev_box (R := R) (k := (fun p => k p.1 p.2)) ..
@[go_sem ↓] theorem ev_load2 (t : TypeId) (a : Operand) : @bnd2 R (evalOp C call f q ρ σr σ ⟨d, .load t a, ty, pos, af, gd⟩) ⟨k⟩ = @bnd _ R (@aLoad C.T ⟨σr⟩ t (val ρ a)) ⟨fun v => k v σ⟩ := by simp only [bnd2_of]; exact ev_load (R := R) (k := (fun p => k p.1 p.2)) ..
@[go_sem ↓] theorem ev_store2 (t : TypeId) (a x : Operand) : @bnd2 R (evalOp C call f false ρ σr σ ⟨d, .store t a x, ty, pos, af, gd⟩) ⟨k⟩ = @bnd _ R (@aStore C.T ⟨σ⟩ t (val ρ a) (val ρ x)) ⟨fun σ => k (.tup []) σ⟩ := by simp only [bnd2_of]; exact ev_store (R := R) (k := (fun p => k p.1 p.2)) ..
@[go_sem ↓] theorem ev_nilCheck2 (x : Operand) : @bnd2 R (evalOp C call f q ρ σr σ ⟨d, .nilCheck x, ty, pos, af, gd⟩) ⟨k⟩ = @bnd _ R (aNilCheck (val ρ x)) ⟨fun v => k v σ⟩ := by simp only [bnd2_of]; exact ev_nilCheck (R := R) (k := (fun p => k p.1 p.2)) ..
@[go_sem ↓] theorem ev_binOp2 (op : BinOp) (t u : TypeId) (x y : Operand) : @bnd2 R (evalOp C call f q ρ σr σ ⟨d, .binOp op t x y u, ty, pos, af, gd⟩) ⟨k⟩ = @bnd _ R (aBin C.T op t (val ρ x) (val ρ y)) ⟨fun v => k v σ⟩ := by simp only [bnd2_of]; exact ev_binOp (R := R) (k := (fun p => k p.1 p.2)) ..
@[go_sem ↓] theorem ev_unOp2 (op : UnOp) (t : TypeId) (x : Operand) : @bnd2 R (evalOp C call f q ρ σr σ ⟨d, .unOp op t x, ty, pos, af, gd⟩) ⟨k⟩ = @bnd _ R (aUn op (val ρ x)) ⟨fun v => k v σ⟩ := by simp only [bnd2_of]; exact ev_unOp (R := R) (k := (fun p => k p.1 p.2)) ..
@[go_sem ↓] theorem ev_convert2 (s t : TypeId) (x : Operand) : @bnd2 R (evalOp C call f q ρ σr σ ⟨d, .convert s t x, ty, pos, af, gd⟩) ⟨k⟩ = @bnd _ R (@aConvert C.T ⟨σr⟩ s t (val ρ x)) ⟨fun v => k v σ⟩ := by simp only [bnd2_of]; exact ev_convert (R := R) (k := (fun p => k p.1 p.2)) ..
@[go_sem ↓] theorem ev_slice2 (t : TypeId) (x : Operand) (lo hi mx : Option Operand) : @bnd2 R (evalOp C call f q ρ σr σ ⟨d, .slice t x lo hi mx, ty, pos, af, gd⟩) ⟨k⟩ = @bnd _ R (aSlice C.T t (val ρ x) (lo.map (val ρ)) (hi.map (val ρ)) (mx.map (val ρ))) ⟨fun v => k v σ⟩ := by simp only [bnd2_of]; exact ev_slice (R := R) (k := (fun p => k p.1 p.2)) ..
@[go_sem ↓] theorem ev_fieldAddr2 (t : TypeId) (x : Operand) (i : Nat) : @bnd2 R (evalOp C call f q ρ σr σ ⟨d, .fieldAddr t x i, ty, pos, af, gd⟩) ⟨k⟩ = @bnd _ R (aFieldAddr C.T t (val ρ x) i) ⟨fun v => k v σ⟩ := by simp only [bnd2_of]; exact ev_fieldAddr (R := R) (k := (fun p => k p.1 p.2)) ..
@[go_sem ↓] theorem ev_field2 (t : TypeId) (x : Operand) (i : Nat) : @bnd2 R (evalOp C call f q ρ σr σ ⟨d, .field t x i, ty, pos, af, gd⟩) ⟨k⟩ = @bnd _ R (aField C.T t (val ρ x) i) ⟨fun v => k v σ⟩ := by simp only [bnd2_of]; exact ev_field (R := R) (k := (fun p => k p.1 p.2)) ..
@[go_sem ↓] theorem ev_indexAddr2 (t : TypeId) (x i : Operand) : @bnd2 R (evalOp C call f q ρ σr σ ⟨d, .indexAddr t x i, ty, pos, af, gd⟩) ⟨k⟩ = @bnd _ R (aIndexAddr C.T t (val ρ x) (val ρ i)) ⟨fun v => k v σ⟩ := by simp only [bnd2_of]; exact ev_indexAddr (R := R) (k := (fun p => k p.1 p.2)) ..
@[go_sem ↓] theorem ev_index2 (t : TypeId) (x i : Operand) : @bnd2 R (evalOp C call f q ρ σr σ ⟨d, .index t x i, ty, pos, af, gd⟩) ⟨k⟩ = @bnd _ R (aIndex C.T t (val ρ x) (val ρ i)) ⟨fun v => k v σ⟩ := by simp only [bnd2_of]; exact ev_index (R := R) (k := (fun p => k p.1 p.2)) ..
@[go_sem ↓] theorem ev_extract2 (x : Operand) (i : Nat) : @bnd2 R (evalOp C call f q ρ σr σ ⟨d, .extract x i, ty, pos, af, gd⟩) ⟨k⟩ = @bnd _ R (extractV (val ρ x) i) ⟨fun v => k v σ⟩ := by simp only [bnd2_of]; exact ev_extract (R := R) (k := (fun p => k p.1 p.2)) ..
@[go_sem ↓] theorem ev_lookup2 (t : TypeId) (x i : Operand) (ok : Bool) : @bnd2 R (evalOp C call f q ρ σr σ ⟨d, .lookup t x i ok, ty, pos, af, gd⟩) ⟨k⟩ = @bnd _ R (@aLookup C.T ⟨σr⟩ t (val ρ x) (val ρ i) ok) ⟨fun v => k v σ⟩ := by simp only [bnd2_of]; exact ev_lookup (R := R) (k := (fun p => k p.1 p.2)) ..
@[go_sem ↓] theorem ev_makeMap2 (t : TypeId) : @bnd2 R (evalOp C call f q ρ σr σ ⟨d, .makeMap t none, ty, pos, af, gd⟩) ⟨k⟩ = @bnd _ R (mapTy C.T t) ⟨fun p => k (.map σ.next) (σ.new (.map p.1 p.2 []))⟩ := by simp only [bnd2_of]; exact ev_makeMap (R := R) (k := (fun p => k p.1 p.2)) ..
@[go_sem ↓] theorem ev_mapUpdate2 (t : TypeId) (x i v : Operand) : @bnd2 R (evalOp C call f false ρ σr σ ⟨d, .mapUpdate t x i v, ty, pos, af, gd⟩) ⟨k⟩ = @bnd _ R (@aMapPut C.T ⟨σ⟩ t (val ρ x) (val ρ i) (val ρ v)) ⟨fun σ => k (.tup []) σ⟩ := by simp only [bnd2_of]; exact ev_mapUpdate (R := R) (k := (fun p => k p.1 p.2)) ..
@[go_sem ↓] theorem ev_insert2 (t : TypeId) (x i v : Operand) : @bnd2 R (evalOp C call f false ρ σr σ ⟨d, .insert t x i v, ty, pos, af, gd⟩) ⟨k⟩ = @bnd _ R (@aMapPut C.T ⟨σ⟩ t (val ρ x) (val ρ i) (val ρ v)) ⟨fun σ => k (.tup []) σ⟩ := by simp only [bnd2_of]; exact ev_insert (R := R) (k := (fun p => k p.1 p.2)) ..
@[go_sem ↓] theorem ev_builtin2 (b : Builtin) (args : Array Operand) (tys : Array TypeId) : @bnd2 R (evalOp C call f q ρ σr σ ⟨d, .call ⟨.builtin b, args, tys⟩, ty, pos, af, gd⟩) ⟨k⟩ = @bnd2 R (@evalBuiltin C f q ⟨σr⟩ ⟨σ⟩ d b tys.toList (args.toList.map (val ρ))) ⟨k⟩ := by simp only [bnd2_of]; exact ev_builtin (R := R) (k := (fun p => k p.1 p.2)) ..
@[go_sem ↓] theorem ev_call2 (v : Operand) (args : Array Operand) (tys : Array TypeId) : @bnd2 R (evalOp C call f q ρ σr σ ⟨d, .call ⟨.value v, args, tys⟩, ty, pos, af, gd⟩) ⟨k⟩ = @bnd2 R (@callA C call q (rowD C f d) (val ρ v) (args.toList.map (val ρ)) ⟨σr⟩ ⟨σ⟩) ⟨k⟩ := by simp only [bnd2_of]; exact ev_call (R := R) (k := (fun p => k p.1 p.2)) ..
end
attribute [go_sem] List.getElem?_toArray List.getElem?_cons_zero List.getElem?_cons_succ Option.getD_some Option.getD_none List.cons_append List.nil_append List.append_nil List.map_cons List.map_nil Option.map_some Option.map_none Option.bind_some Option.bind_none beq_self_eq_true bne_self_eq_false Bool.not_true Bool.not_false List.set_cons_zero List.set_cons_succ List.length_cons List.length_nil List.replicate_zero List.replicate_succ List.isEmpty_nil List.isEmpty_cons Bool.and_true Bool.and_false Bool.true_and Bool.false_and Bool.or_true Bool.or_false decide_true decide_false
attribute [go_sem] aFieldAddr aField aNilCheck retV retV1 freeze freezeL valSt valSt1 turns makes nvA rowO rowD scalarT flatT fullT
section
variable {R : Type} (C : Cfg) (call : Caller) (f : FuncId) (ops : Array Oper) (ρ : Env) (σ : St)
@[go_sem ↓] theorem ops_cons (d : Option Tmp) (op : Op) (ty : TypeId) (pos : String) (af : Array Edge) (gd : Option (Nat × Bool)) (rest : List Oper) (k : Env → St → Option R) : evalOps C call f ops (⟨d, op, ty, pos, af, gd⟩ :: rest) ρ σ k =
    @sel R (wantedA ops ρ ⟨d, op, ty, pos, af, gd⟩) ⟨@bnd2 R (evalOp C call f false ρ σ σ ⟨d, op, ty, pos, af, gd⟩) ⟨fun v σ' => evalOps C call f ops rest (putA ρ d v) σ' k⟩⟩ ⟨evalOps C call f ops rest (putA ρ d (.tup [])) σ k⟩ := by
  rw [bnd2_of]; rfl
@[go_sem ↓] theorem ops_nil (k : Env → St → Option R) : evalOps C call f ops [] ρ σ k = k ρ σ := nr rfl
@[go_sem ↓] theorem q_cons (σ0 : St) (d : Option Tmp) (op : Op) (ty : TypeId) (pos : String) (af : Array Edge) (gd : Option (Nat × Bool)) (rest : List Oper) (k : Env → St → Option R) : evalQ C call f ops σ0 (⟨d, op, ty, pos, af, gd⟩ :: rest) ρ σ k =
    @sel R (wantedA ops ρ ⟨d, op, ty, pos, af, gd⟩) ⟨@br R (makes C f ⟨d, op, ty, pos, af, gd⟩) ⟨@br R (nvA C f ρ ⟨d, op, ty, pos, af, gd⟩) ⟨@bnd2 R (evalOp C call f false ρ σ σ ⟨d, op, ty, pos, af, gd⟩) ⟨fun v σ' => @br R (turns C f ⟨d, op, ty, pos, af, gd⟩) ⟨evalQ C call f ops σ' rest (putA ρ d v) σ' k⟩ ⟨evalQ C call f ops σ0 rest (putA ρ d v) σ' k⟩⟩⟩ ⟨none⟩⟩ ⟨@bnd2 R (evalOp C call f true ρ σ0 σ ⟨d, op, ty, pos, af, gd⟩) ⟨fun v σ' => evalQ C call f ops σ0 rest (putA ρ d v) σ' k⟩⟩⟩ ⟨@br R (turns C f ⟨d, op, ty, pos, af, gd⟩) ⟨evalQ C call f ops σ rest (putA ρ d (.tup [])) σ k⟩ ⟨evalQ C call f ops σ0 rest (putA ρ d (.tup [])) σ k⟩⟩ := by
  rw [bnd2_of, bnd2_of]; rfl
@[go_sem ↓] theorem q_nil (σ0 : St) (k : Env → St → Option R) : evalQ C call f ops σ0 [] ρ σ k = k ρ σ := nr rfl
@[go_sem ↓] theorem wanted_none (d : Option Tmp) (op : Op) (ty : TypeId) (pos : String) (af : Array Edge) : wantedA ops ρ ⟨d, op, ty, pos, af, none⟩ = some true := nr rfl
def wantB (v : AV) (want : Bool) : Option Bool := match v with | .bool b => some (b == want) | .tup _ => some false | _ => none
@[go_sem] theorem wantB_tt : wantB (.bool true) true = some true := nr rfl
@[go_sem] theorem wantB_tf : wantB (.bool true) false = some false := nr rfl
@[go_sem] theorem wantB_ft : wantB (.bool false) true = some false := nr rfl
@[go_sem] theorem wantB_ff : wantB (.bool false) false = some true := nr rfl
@[go_sem] theorem wantB_tup (vs : List AV) (b : Bool) : wantB (.tup vs) b = some false := nr rfl
def dstOf (ops : Array Oper) (j : Nat) : Option Tmp := (ops[j]?).bind (·.dst)
attribute [go_sem] dstOf
def wantD (t : Option Tmp) (ρ : Env) (want : Bool) : Option Bool := match t with | none => some false | some t => wantB (ρ t) want
@[go_sem ↓] theorem wantD_some (t : Tmp) (ρ : Env) (want : Bool) : wantD (some t) ρ want = wantB (ρ t) want := nr rfl
@[go_sem ↓] theorem wanted_some (d : Option Tmp) (op : Op) (ty : TypeId) (pos : String) (af : Array Edge) (j : Nat) (want : Bool) : wantedA ops ρ ⟨d, op, ty, pos, af, some (j, want)⟩ = wantD (dstOf ops j) ρ want := by
  simp only [wantedA, dstOf, wantD]; cases (ops[j]?).bind (·.dst) <;> rfl
@[go_sem ↓] theorem code_skip (k : Ex → Env → St → Option R) : evalCode C call f .skip ρ σ k = k .normal ρ σ := nr rfl
@[go_sem ↓] theorem code_region (id : Nat) (ops : Array Oper) (k : Ex → Env → St → Option R) : evalCode C call f (.region id ops false) ρ σ k = evalOps C call f ops ops.toList ρ σ (k .normal) := nr rfl
@[go_sem ↓] theorem code_draw (id : Nat) (ops : Array Oper) (k : Ex → Env → St → Option R) : evalCode C call f (.region id ops true) ρ σ k = @br R (drawOk C f ops) ⟨evalQ C call f ops σ ops.toList ρ σ (k .normal)⟩ ⟨@br R (drawOkA C f ops) ⟨evalQ C call f ops σ ops.toList ρ σ fun ρ' σ' => @br R (aliasOk (aliasPairs ops) ρ') ⟨k .normal ρ' σ'⟩ ⟨none⟩⟩ ⟨@br R (drawOkF C f ops) ⟨evalQ C call f ops σ ops.toList ρ σ (k .normal)⟩ ⟨none⟩⟩⟩ := nr rfl
@[go_sem ↓] theorem code_seq (a b : Code) (k : Ex → Env → St → Option R) : evalCode C call f (.seq a b) ρ σ k = evalCode C call f a ρ σ fun e ρ' σ' => @nx R e ⟨evalCode C call f b ρ' σ' k⟩ ⟨k e ρ' σ'⟩ := nr rfl
@[go_sem ↓] theorem code_cond (c : Operand) (a b : Code) (k : Ex → Env → St → Option R) : evalCode C call f (.cond c a b) ρ σ k = @brV R (val ρ c) ⟨evalCode C call f a ρ σ k⟩ ⟨evalCode C call f b ρ σ k⟩ := nr rfl
@[go_sem ↓] theorem code_block (id : Nat) (a : Code) (k : Ex → Env → St → Option R) : evalCode C call f (.block id a) ρ σ k = evalCode C call f a ρ σ fun e ρ' σ' => k (blk id e) ρ' σ' := nr rfl
@[go_sem ↓] theorem code_loop (a : Code) (k : Ex → Env → St → Option R) : evalCode C call f (.loop a) ρ σ k = iterK (fun ρ σ k => evalCode C call f a ρ σ k) C.M ρ σ k := nr rfl
@[go_sem ↓] theorem code_exit (id : Nat) (k : Ex → Env → St → Option R) : evalCode C call f (.exit id) ρ σ k = k (.exit id) ρ σ := nr rfl
@[go_sem ↓] theorem code_ret (k : Ex → Env → St → Option R) : evalCode C call f .ret ρ σ k = k .ret ρ σ := nr rfl
@[go_sem ↓] theorem val_tmp (t : Tmp) : val ρ (.tmp t) = ρ t := nr rfl
@[go_sem ↓] theorem val_int (k : IntKind) (n : Int) : val ρ (.const (.int k n)) = .int k n := nr rfl
@[go_sem ↓] theorem val_bool (b : Bool) : val ρ (.const (.bool b)) = .bool b := nr rfl
@[go_sem ↓] theorem val_str (s : ByteArray) : val ρ (.const (.string s)) = .str s := nr rfl
@[go_sem ↓] theorem val_ptr : val ρ (.const (.pointer none)) = .nilp := nr rfl
@[go_sem ↓] theorem val_slice : val ρ (.const (.slice none 0 0)) = .mt true := nr rfl
@[go_sem ↓] theorem val_map : val ρ (.const (.map none)) = .nilm := nr rfl
@[go_sem ↓] theorem val_nilf : val ρ (.const .nilFunc) = .nilf := nr rfl
@[go_sem ↓] theorem val_nili : val ρ (.const .nilIface) = .nili := nr rfl
@[go_sem ↓] theorem val_func (g : FuncId) : val ρ (.func g) = .func g [] := nr rfl
@[go_sem ↓] theorem upd_at (i : Nat) (v : AV) (j : Nat) : upd ρ i v j = if j = i then v else ρ j := nr rfl
@[go_sem ↓] theorem putA_some (d : Tmp) (v : AV) : putA ρ (some d) v = upd ρ d v := nr rfl
@[go_sem ↓] theorem putA_none (v : AV) : putA ρ none v = ρ := nr rfl
@[go_sem ↓] theorem entry_at (args : List AV) (i : Nat) : entryEnv args i = (args[i]?).getD (.tup []) := nr rfl
end
section
variable (T : Tab) (k : IntKind) (a b : Int)
@[go_sem] theorem bin_add (t : TypeId) : aBin T .add t (.int k a) (.int k b) = some (.int k (k.wrap (a + b))) := by simp [aBin, intBin]
@[go_sem] theorem bin_sub (t : TypeId) : aBin T .sub t (.int k a) (.int k b) = some (.int k (k.wrap (a - b))) := by simp [aBin, intBin]
@[go_sem] theorem bin_mul (t : TypeId) : aBin T .mul t (.int k a) (.int k b) = some (.int k (k.wrap (a * b))) := by simp [aBin, intBin]
@[go_sem] theorem bin_quo (t : TypeId) : aBin T .quo t (.int k a) (.int k b) = if b = 0 then none else some (.int k (k.wrap (a.tdiv b))) := by simp [aBin, intBin]
@[go_sem] theorem bin_rem (t : TypeId) : aBin T .rem t (.int k a) (.int k b) = if b = 0 then none else some (.int k (a.tmod b)) := by simp [aBin, intBin]
@[go_sem] theorem bin_eql (t : TypeId) : aBin T .eql t (.int k a) (.int k b) = some (.bool (a == b)) := by simp [aBin, intBin]
@[go_sem] theorem bin_neq (t : TypeId) : aBin T .neq t (.int k a) (.int k b) = some (.bool (a != b)) := by simp [aBin, intBin]
@[go_sem] theorem bin_lss (t : TypeId) : aBin T .lss t (.int k a) (.int k b) = some (.bool (decide (a < b))) := by simp [aBin, intBin]
@[go_sem] theorem bin_leq (t : TypeId) : aBin T .leq t (.int k a) (.int k b) = some (.bool (decide (a ≤ b))) := by simp [aBin, intBin]
@[go_sem] theorem bin_gtr (t : TypeId) : aBin T .gtr t (.int k a) (.int k b) = some (.bool (decide (a > b))) := by simp [aBin, intBin]
@[go_sem] theorem bin_geq (t : TypeId) : aBin T .geq t (.int k a) (.int k b) = some (.bool (decide (a ≥ b))) := by simp [aBin, intBin]
@[go_sem] theorem bin_beql (t : TypeId) (x y : Bool) : aBin T .eql t (.bool x) (.bool y) = if isBoolT T t = true then some (.bool (x == y)) else none := nr rfl
@[go_sem] theorem bin_bneq (t : TypeId) (x y : Bool) : aBin T .neq t (.bool x) (.bool y) = if isBoolT T t = true then some (.bool !(x == y)) else none := nr rfl
@[go_sem] theorem bin_seql (t : TypeId) (x y : ByteArray) : aBin T .eql t (.str x) (.str y) = some (.bool (x.toList == y.toList)) := nr rfl
@[go_sem] theorem bin_sneq (t : TypeId) (x y : ByteArray) : aBin T .neq t (.str x) (.str y) = some (.bool !(x.toList == y.toList)) := nr rfl
@[go_sem] theorem bin_pnn (op : BinOp) (t : TypeId) : aBin T op t .nilp .nilp = if isPtrT T t = true then eqB op true else none := nr rfl
@[go_sem] theorem bin_ppn (op : BinOp) (t s : TypeId) (i : Nat) (p : List Nat) : aBin T op t (.ptr s i p) .nilp = if isPtrT T t = true then eqB op false else none := nr rfl
@[go_sem] theorem bin_pfn (op : BinOp) (t s : TypeId) (v : AV) : aBin T op t (.fptr s v) .nilp = if isPtrT T t = true then eqB op false else none := nr rfl
@[go_sem] theorem bin_mt (op : BinOp) (t : TypeId) (b : Bool) : aBin T op t (.mt b) (.mt true) = if isSliceT T t = true then eqB op b else none := nr rfl
@[go_sem] theorem bin_list (op : BinOp) (t e : TypeId) (b : Bool) (xs : List AV) (k : Option Nat) : aBin T op t (.list e b xs k) (.mt true) = if isSliceT T t = true then eqB op b else none := nr rfl
attribute [go_sem] isBoolT isPtrT isFuncT isMapT isSliceT eqB
@[go_sem] theorem bin_agg (op : BinOp) (t s s' : TypeId) (xs ys : List AV) : aBin T op t (.agg s xs) (.agg s' ys) = (aEqT T 20 t (.agg s xs) (.agg s' ys)).bind fun b => eqB op b := nr rfl
attribute [go_sem] aEqT eqL
@[go_sem] theorem un_not (x : Bool) : aUn .not (.bool x) = some (.bool !x) := nr rfl
@[go_sem] theorem same_self (t : TypeId) : T.same t t = true := by simp [Tab.same]
@[go_sem] theorem fits_int (t : TypeId) : fits T t (.int k a) = (T.ty t == some (.int k)) := nr rfl
@[go_sem] theorem fits_bool (t : TypeId) (x : Bool) : fits T t (.bool x) = (T.ty t == some .bool) := nr rfl
@[go_sem] theorem fits_str (t : TypeId) (x : ByteArray) : fits T t (.str x) = (T.ty t == some .str) := nr rfl
@[go_sem] theorem fits_agg (t s : TypeId) (vs : List AV) : fits T t (.agg s vs) = T.same s t := nr rfl
@[go_sem] theorem fits_list (t e : TypeId) (n : Bool) (xs : List AV) (tok : Option Nat) : fits T t (.list e n xs tok) = (T.ty t == some (.slice e)) := nr rfl
@[go_sem] theorem fits_mt (t : TypeId) (n : Bool) : fits T t (.mt n) = match T.ty t with | some (.slice _) => true | _ => false := nr rfl
@[go_sem] theorem fitV_ok (t : TypeId) (v : AV) : fitV T t v = if fits T t v = true then some v else none := nr rfl
theorem fieldAddr_ptr (t : TypeId) (fs : List TypeId) (id : Nat) (p : List Nat) (i : Nat) (ft : TypeId) (h : T.ty t = some (.struct fs)) (hf : fs[i]? = some ft) (hs : T.size ft ≠ 0) :
    aFieldAddr T t (.ptr t id p) i = some (.ptr ft id (p ++ [i])) := by simp [aFieldAddr, h, hf, hs, same_self]
@[go_sem] theorem load_fptr (m : Mem) (t : TypeId) (v : AV) : @aLoad T m t (.fptr t v) = some v := by simp [aLoad, same_self]
def rowOf (o : Option AObj) (p : List Nat) : Option AV := match o with | some (.cells _ vs) => rowAt vs p | _ => none
@[go_sem] theorem rowOf_cells (e : TypeId) (vs : List AV) (p : List Nat) : rowOf (some (.cells e vs)) p = rowAt vs p := nr rfl
@[go_sem] theorem load_ptr (σ : St) (t : TypeId) (id : Nat) (p : List Nat) : @aLoad T ⟨σ⟩ t (.ptr t id p) = rowOf (σ.obj id) p := by
  simp only [aLoad, same_self, if_true, rowOf]; cases σ.obj id with | none => rfl | some o => cases o <;> rfl
@[go_sem ↓] theorem obj_new (σ : St) (o : AObj) (i : Nat) : (σ.new o).obj i = if i = σ.next then some o else σ.obj i := nr rfl
@[go_sem] theorem next_new (σ : St) (o : AObj) : (σ.new o).next = σ.next + 1 := nr rfl
@[go_sem ↓] theorem obj_set (σ : St) (o : AObj) (j i : Nat) : (σ.set j o).obj i = if i = j then some o else σ.obj i := nr rfl
@[go_sem] theorem next_set (σ : St) (o : AObj) (j : Nat) : (σ.set j o).next = σ.next := nr rfl
@[go_sem] theorem obj_tokNew (σ : St) (t : Option Nat) (i : Nat) : (σ.tokNew t).obj i = σ.obj i := nr rfl
@[go_sem] theorem next_tokNew (σ : St) (t : Option Nat) : (σ.tokNew t).next = σ.next := nr rfl
@[go_sem] theorem next_empty : St.empty.next = 0 := nr rfl
@[go_sem] theorem obj_empty (i : Nat) : St.empty.obj i = none := nr rfl
@[go_sem] theorem rowAt_cons (v : AV) (vs : List AV) (p : List Nat) : rowAt (v :: vs) (0 :: p) = v.at p := nr rfl
@[go_sem] theorem at_nil (v : AV) : v.at [] = some v := by cases v <;> rfl
def atO (o : Option AV) (p : List Nat) : Option AV := match o with | some v => v.at p | none => none
@[go_sem] theorem atO_some (v : AV) (p : List Nat) : atO (some v) p = v.at p := nr rfl
@[go_sem] theorem at_agg (t : TypeId) (vs : List AV) (i : Nat) (p : List Nat) : (AV.agg t vs).at (i :: p) = atO vs[i]? p := by simp only [AV.at, atO]; cases vs[i]? <;> rfl
def resL (T : Tab) (ρ : Env) (σ : St) : List ResultVar → List AV → Option AV
  | [], vs => match vs.reverse with | [v] => some v | vs => some (.tup vs)
  | r :: rs, vs => @bnd _ _ (aResult T ρ σ r) ⟨fun v => resL T ρ σ rs (v :: vs)⟩
theorem resL_eq (ρ : Env) (σ : St) : ∀ (rs : List ResultVar) (vs : List AV), resL T ρ σ rs vs = (rs.mapM (aResult T ρ σ)).map fun us => match vs.reverse ++ us with | [v] => v | vs => .tup vs
  | [], vs => by simp only [resL, List.mapM_nil, Option.pure_def, Option.map_some, List.append_nil]; split <;> rfl
  | r :: rs, vs => by
    simp only [resL, List.mapM_cons, Option.pure_def, Option.bind_eq_bind]
    cases h : aResult T ρ σ r with
    | none => simp [bnd]
    | some v =>
      simp only [bnd, Option.bind_some, resL_eq ρ σ rs (v :: vs), List.reverse_cons, List.append_assoc, List.singleton_append]
      cases rs.mapM (aResult T ρ σ) <;> rfl
@[go_sem ↓] theorem results_eq (ρ : Env) (σ : St) (rs : List ResultVar) : aResults T ρ σ rs = resL T ρ σ rs [] := by rw [resL_eq]; rfl
@[go_sem ↓] theorem resL_cons (ρ : Env) (σ : St) (r : ResultVar) (rs : List ResultVar) (vs : List AV) : resL T ρ σ (r :: rs) vs = @bnd _ _ (aResult T ρ σ r) ⟨fun v => resL T ρ σ rs (v :: vs)⟩ := nr rfl
@[go_sem ↓] theorem resL_nil0 (ρ : Env) (σ : St) : resL T ρ σ [] [] = some (.tup []) := nr rfl
@[go_sem ↓] theorem resL_nil1 (ρ : Env) (σ : St) (v : AV) : resL T ρ σ [] [v] = some v := nr rfl
@[go_sem ↓] theorem resL_nil2 (ρ : Env) (σ : St) (u v : AV) : resL T ρ σ [] [u, v] = some (.tup [v, u]) := nr rfl
@[go_sem ↓] theorem resL_nil3 (ρ : Env) (σ : St) (u v x : AV) : resL T ρ σ [] [u, v, x] = some (.tup [x, v, u]) := nr rfl
@[go_sem ↓] theorem resL_nil4 (ρ : Env) (σ : St) (u v x y : AV) : resL T ρ σ [] [u, v, x, y] = some (.tup [y, x, v, u]) := nr rfl
@[go_sem ↓] theorem aResult_tmp (ρ : Env) (σ : St) (t : Tmp) : aResult T ρ σ (.tmp t) = compV (ρ t) := nr rfl
@[go_sem ↓] theorem aResult_cell (ρ : Env) (σ : St) (a : Tmp) (t : TypeId) : aResult T ρ σ (.cell a t) = (@aLoad T ⟨σ⟩ t (ρ a)).bind compV := nr rfl
@[go_sem] theorem compV_bool (b : Bool) : compV (.bool b) = some (.bool b) := nr rfl
@[go_sem] theorem compV_int (k : IntKind) (n : Int) : compV (.int k n) = some (.int k n) := nr rfl
@[go_sem] theorem compV_str (s : ByteArray) : compV (.str s) = some (.str s) := nr rfl
@[go_sem] theorem compV_agg (t : TypeId) (vs : List AV) : compV (.agg t vs) = some (.agg t vs) := nr rfl
@[go_sem] theorem compV_mt (b : Bool) : compV (.mt b) = some (.mt b) := nr rfl
@[go_sem] theorem compV_list (e : TypeId) (n : Bool) (xs : List AV) (t : Option Nat) : compV (.list e n xs t) = some (.list e n xs t) := nr rfl
@[go_sem] theorem compV_view (e : TypeId) (i : Nat) (p : List Nat) (o l : Nat) : compV (.view e i p o l) = some (.view e i p o l) := nr rfl
@[go_sem] theorem compV_nilp  : compV .nilp = some .nilp := nr rfl
@[go_sem] theorem compV_ptr (t : TypeId) (i : Nat) (p : List Nat) : compV (.ptr t i p) = some (.ptr t i p) := nr rfl
@[go_sem] theorem compV_fptr (t : TypeId) (v : AV) : compV (.fptr t v) = some (.fptr t v) := nr rfl
@[go_sem] theorem compV_nilf  : compV .nilf = some .nilf := nr rfl
@[go_sem] theorem compV_func (f : FuncId) (c : List AV) : compV (.func f c) = some (.func f c) := nr rfl
@[go_sem] theorem compV_nilm  : compV .nilm = some .nilm := nr rfl
@[go_sem] theorem compV_map (i : Nat) : compV (.map i) = some (.map i) := nr rfl
@[go_sem] theorem compV_nili  : compV .nili = some .nili := nr rfl
@[go_sem] theorem compV_iface (t : TypeId) (v : AV) : compV (.iface t v) = some (.iface t v) := nr rfl
end
@[go_sem ↓] theorem retR_eq (C : Cfg) (f : FuncId) (rs : List ResultVar) (σ0 : St) (ρ : Env) (σ : St) : retR C f rs σ0 ρ σ =
  @bnd _ _ (aResults C.T ρ σ rs) ⟨fun r => @br _ (C.isVal f) ⟨@bnd _ _ (retV σ r) ⟨fun r => some (r, valSt r)⟩⟩ ⟨some (r, if C.keep f = true then σ else σ.trim σ0.next)⟩⟩ := rfl
end Go.Proofs.Yticlihmbikcohaa.Va
