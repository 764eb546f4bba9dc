/- what a tree says of the machine's cells -/
import Derived.Test.YticlihmbikcohaaVaS
namespace Go.Proofs.Yticlihmbikcohaa.Va
open Go
set_option linter.unusedVariables false
set_option linter.unusedSimpArgs false

def Tab.sum (T : Tab) : List TypeId → Nat
  | [] => 0
  | t :: ts => T.size t + T.sum ts
/-- Where a part lies, and of which type it is. -/
def Tab.sub (T : Tab) : TypeId → List Nat → Option (Nat × TypeId)
  | t, [] => some (0, t)
  | t, i :: p =>
    match T.ty t with
    | some (.struct fs) => match fs[i]? with | some ft => (T.sub ft p).map fun x => (T.sum (fs.take i) + x.1, x.2) | none => none
    | some (.array _ e) => (T.sub e p).map fun x => (i * T.size e + x.1, x.2)
    | _ => none
def Tab.loc (T : Tab) (e : TypeId) : List Nat → Option (Nat × TypeId)
  | [] => none
  | i :: p => (T.sub e p).map fun x => (i * T.size e + x.1, x.2)

/-- Where a row lies in an object: the object itself, or an array within. -/
def Tab.rowLoc (T : Tab) (e : TypeId) (p : List Nat) : Option (Nat × TypeId) :=
  match p with
  | [] => if (T.ty e).isSome then some (0, e) else none
  | p => match T.loc e p with | some (o, t) => (match T.ty t with | some (.array _ u) => if (T.ty u).isSome then some (o, u) else none | _ => none) | none => none

/-- Of the machine: the objects' types and blocks, the tokens' slices, what is in cells that no more turn. -/
structure Cx where
  next : Nat
  ntok : Nat
  ε : Nat → TypeId
  μ : Nat → Nat
  τ : Nat → Option Addr × Nat × Nat × TypeId
  F : Nat → Nat → Option Value
  G : Nat → Option Obj
def Cx.closed (c : Cx) : Cx := { c with next := 0, ntok := 0 }
def TokOk (c : Cx) (tok : Option Nat) (a : Option Addr) (len cap : Nat) (e : TypeId) : Prop :=
  match tok with | none => True | some 0 => cap = len | some (t + 1) => t < c.ntok ∧ c.τ t = (a, len, cap, e)

mutual
inductive RepV (T : Tab) : Cx → Ty → AV → List Value → Prop
  | bool (c : Cx) (b : Bool) : RepV T c .bool (.bool b) [.bool b]
  | int (c : Cx) (k : IntKind) (n : Int) : RepV T c (.int k) (.int k n) [.int k n]
  | str (c : Cx) (s : ByteArray) : RepV T c .str (.str s) [.string s]
  | agg (c : Cx) (t : TypeId) (d : Ty) (ts : List TypeId) (vs : List AV) (cs : List Value) (ht : T.ty t = some d) (hd : Tab.comps d = some ts) (h : RepL T c ts vs cs) : RepV T c d (.agg t vs) cs
  | mt (c : Cx) (e : TypeId) (b : Bool) (a : Option Addr) (h : b = true ↔ a = none) : RepV T c (.slice e) (.mt b) [.slice a 0 0]
  | list0 (c : Cx) (e : TypeId) (b : Bool) (a : Option Addr) (cap : Nat) (tok : Option Nat) (h : b = true ↔ a = none) (hk : TokOk c tok a 0 cap e) : RepV T c (.slice e) (.list e b [] tok) [.slice a 0 cap]
  | list (c : Cx) (e : TypeId) (xs : List AV) (cs : List Value) (b o cap : Nat) (tok : Option Nat) (h : RepL T c.closed (List.replicate xs.length e) xs cs) (hF : ∀ j v, cs[j]? = some v → c.F b (o + j) = some v)
      (hne : xs ≠ []) (hcap : xs.length ≤ cap) (hk : TokOk c tok (some ⟨b, o, none⟩) xs.length cap e) : RepV T c (.slice e) (.list e false xs tok) [.slice (some ⟨b, o, none⟩) xs.length cap]
  | view (c : Cx) (e : TypeId) (id : Nat) (path : List Nat) (off len o cap : Nat) (hi : id < c.next) (hl : T.rowLoc (c.ε id) path = some (o, e)) (hcap : len ≤ cap) : RepV T c (.slice e) (.view e id path off len) [.slice (some ⟨c.μ id, o + off * T.size e, none⟩) len cap]
  | nilp (c : Cx) : RepV T c .ptr .nilp [.pointer none]
  | ptr (c : Cx) (t : TypeId) (id : Nat) (path : List Nat) (o : Nat) (hi : id < c.next) (hl : T.loc (c.ε id) path = some (o, t)) : RepV T c .ptr (.ptr t id path) [.pointer (some ⟨c.μ id, o, none⟩)]
  | fptr (c : Cx) (t : TypeId) (d : Ty) (v : AV) (cs : List Value) (b o : Nat) (ht : T.ty t = some d) (h : RepV T c.closed d v cs) (hF : ∀ j u, cs[j]? = some u → c.F b (o + j) = some u) : RepV T c .ptr (.fptr t v) [.pointer (some ⟨b, o, none⟩)]
  | nilf (c : Cx) : RepV T c .func .nilf [.nilFunc]
  | func (c : Cx) (f : FuncId) (caps : List AV) (ws : List Value) (h : RepC T c caps ws) : RepV T c .func (.func f caps) [.func (.func f) #[] ws.toArray]
  | nilm (c : Cx) (k v : TypeId) : RepV T c (.map k v) .nilm [.map none]
  | map (c : Cx) (k v : TypeId) (id : Nat) (hi : id < c.next) : RepV T c (.map k v) (.map id) [.map (some (c.μ id))]
  | nili (c : Cx) : RepV T c .iface .nili [.nilIface]
inductive RepL (T : Tab) : Cx → List TypeId → List AV → List Value → Prop
  | nil (c : Cx) : RepL T c [] [] []
  | cons (c : Cx) (t : TypeId) (d : Ty) (ts : List TypeId) (v : AV) (vs : List AV) (cs ds : List Value) (ht : T.ty t = some d) (h : RepV T c d v cs) (hs : RepL T c ts vs ds) : RepL T c (t :: ts) (v :: vs) (cs ++ ds)
inductive RepC (T : Tab) : Cx → List AV → List Value → Prop
  | nil (c : Cx) : RepC T c [] []
  | cons (c : Cx) (d : Ty) (v : AV) (u : Value) (vs : List AV) (us : List Value) (h : RepV T c d v [u]) (ha : aggA v = false) (hs : RepC T c vs us) : RepC T c (v :: vs) (u :: us)
end

/-- More is known, and nothing otherwise. -/
structure Ext (c c' : Cx) : Prop where
  next : c.next ≤ c'.next
  ntok : c.ntok ≤ c'.ntok
  ε : ∀ i, i < c.next → c'.ε i = c.ε i
  μ : ∀ i, i < c.next → c'.μ i = c.μ i
  τ : ∀ t, t < c.ntok → c'.τ t = c.τ t
  F : ∀ b o v, c.F b o = some v → c'.F b o = some v
theorem Ext.refl (c : Cx) : Ext c c := ⟨Nat.le_refl _, Nat.le_refl _, fun _ _ => rfl, fun _ _ => rfl, fun _ _ => rfl, fun _ _ _ h => h⟩
theorem Ext.trans {a b c : Cx} (h : Ext a b) (g : Ext b c) : Ext a c :=
  ⟨Nat.le_trans h.next g.next, Nat.le_trans h.ntok g.ntok, fun i hi => (g.ε i (Nat.lt_of_lt_of_le hi h.next)).trans (h.ε i hi), fun i hi => (g.μ i (Nat.lt_of_lt_of_le hi h.next)).trans (h.μ i hi),
    fun t ht => (g.τ t (Nat.lt_of_lt_of_le ht h.ntok)).trans (h.τ t ht), fun b o v hv => g.F b o v (h.F b o v hv)⟩
theorem Ext.closed {c c' : Cx} (h : Ext c c') : Ext c.closed c'.closed := ⟨Nat.le_refl _, Nat.le_refl _, fun i hi => absurd hi (Nat.not_lt_zero _), fun i hi => absurd hi (Nat.not_lt_zero _), fun i hi => absurd hi (Nat.not_lt_zero _), h.F⟩
theorem Ext.of_closed {c c' : Cx} (h : ∀ b o v, c.F b o = some v → c'.F b o = some v) : Ext c.closed c' := ⟨Nat.zero_le _, Nat.zero_le _, fun i hi => absurd hi (Nat.not_lt_zero _), fun i hi => absurd hi (Nat.not_lt_zero _), fun i hi => absurd hi (Nat.not_lt_zero _), h⟩
theorem TokOk.ext {c c' : Cx} {tok : Option Nat} {a : Option Addr} {len cap : Nat} {e : TypeId} (h : TokOk c tok a len cap e) (hx : Ext c c') : TokOk c' tok a len cap e := by
  match tok with
  | none => trivial
  | some 0 => exact h
  | some (t + 1) => exact ⟨Nat.lt_of_lt_of_le h.1 hx.ntok, (hx.τ t h.1).trans h.2⟩
theorem TokOk.any {c c' : Cx} {tok : Option Nat} {a : Option Addr} {len cap : Nat} {e : TypeId} (h : TokOk c tok a len cap e) (hp : fullT tok = true) : TokOk c' tok a len cap e := by
  match tok with
  | none => trivial
  | some 0 => exact h
  | some (t + 1) => simp [fullT] at hp
mutual
theorem RepV.ext {T : Tab} : ∀ {c c' : Cx} {d : Ty} {v : AV} {cs : List Value}, RepV T c d v cs → Ext c c' → RepV T c' d v cs
  | _, _, _, _, _, .bool _ b, _ => .bool _ b
  | _, _, _, _, _, .int _ k n, _ => .int _ k n
  | _, _, _, _, _, .str _ s, _ => .str _ s
  | _, _, _, _, _, .agg _ t d ts vs cs ht hd h, hx => .agg _ t d ts vs cs ht hd (h.ext hx)
  | _, _, _, _, _, .mt _ e b a h, _ => .mt _ e b a h
  | _, _, _, _, _, .list0 _ e b a cap tok h hk, hx => .list0 _ e b a cap tok h (hk.ext hx)
  | _, _, _, _, _, .list _ e xs cs b o cap tok h hF hne hcap hk, hx => .list _ e xs cs b o cap tok (h.ext hx.closed) (fun j v hj => hx.F _ _ _ (hF j v hj)) hne hcap (hk.ext hx)
  | _, _, _, _, _, .view c e id path off len o cap hi hl hcap, hx => by
    rw [← hx.μ id hi]
    exact .view _ e id path off len o cap (Nat.lt_of_lt_of_le hi hx.next) (by rw [hx.ε id hi]; exact hl) hcap
  | _, _, _, _, _, .nilp _, _ => .nilp _
  | _, _, _, _, _, .ptr c t id path o hi hl, hx => by
    rw [← hx.μ id hi]
    exact .ptr _ t id path o (Nat.lt_of_lt_of_le hi hx.next) (by rw [hx.ε id hi]; exact hl)
  | _, _, _, _, _, .fptr _ t d v cs b o ht h hF, hx => .fptr _ t d v cs b o ht (h.ext hx.closed) (fun j u hj => hx.F _ _ _ (hF j u hj))
  | _, _, _, _, _, .nilf _, _ => .nilf _
  | _, _, _, _, _, .func _ f caps ws h, hx => .func _ f caps ws (h.ext hx)
  | _, _, _, _, _, .nilm _ k v, _ => .nilm _ k v
  | _, _, _, _, _, .map c k v id hi, hx => by
    rw [← hx.μ id hi]
    exact .map _ k v id (Nat.lt_of_lt_of_le hi hx.next)
  | _, _, _, _, _, .nili _, _ => .nili _
theorem RepL.ext {T : Tab} : ∀ {c c' : Cx} {ts : List TypeId} {vs : List AV} {cs : List Value}, RepL T c ts vs cs → Ext c c' → RepL T c' ts vs cs
  | _, _, _, _, _, .nil _, _ => .nil _
  | _, _, _, _, _, .cons _ t d ts v vs cs ds ht h hs, hx => .cons _ t d ts v vs cs ds ht (h.ext hx) (hs.ext hx)
theorem RepC.ext {T : Tab} : ∀ {c c' : Cx} {vs : List AV} {cs : List Value}, RepC T c vs cs → Ext c c' → RepC T c' vs cs
  | _, _, _, _, .nil _, _ => .nil _
  | _, _, _, _, .cons _ d v u vs us h ha hs, hx => .cons _ d v u vs us (h.ext hx) ha (hs.ext hx)
end

def Tab.sz (T : Tab) : Ty → Nat
  | .struct fs => T.sum fs
  | .array n e => n * T.size e
  | _ => 1
def TabSz (T : Tab) : Prop := ∀ t d, T.ty t = some d → T.size t = T.sz d
theorem sum_replicate (T : Tab) (n : Nat) (e : TypeId) : T.sum (List.replicate n e) = n * T.size e := by
  induction n with
  | zero => simp [Tab.sum]
  | succ n ih => simp [List.replicate_succ, Tab.sum, ih, Nat.add_mul]; omega
theorem sz_comps {T : Tab} {d : Ty} {ts : List TypeId} (h : Tab.comps d = some ts) : T.sz d = T.sum ts := by
  cases d <;> simp [Tab.comps] at h
  · subst h; simp [Tab.sz, sum_replicate]
  · subst h; rfl
mutual
theorem RepV.len {T : Tab} (hT : TabSz T) : ∀ {c : Cx} {d : Ty} {v : AV} {cs : List Value}, RepV T c d v cs → cs.length = T.sz d
  | _, _, _, _, .bool _ b => rfl
  | _, _, _, _, .int _ k n => rfl
  | _, _, _, _, .str _ s => rfl
  | _, _, _, _, .agg _ t d ts vs cs ht hd h => (h.len hT).trans (sz_comps hd).symm
  | _, _, _, _, .mt _ e b a h => rfl
  | _, _, _, _, .list0 _ e b a cap tok h hk => rfl
  | _, _, _, _, .list _ e xs cs b o cap tok h hF hne hcap hk => rfl
  | _, _, _, _, .view .. => rfl
  | _, _, _, _, .nilp _ => rfl
  | _, _, _, _, .ptr .. => rfl
  | _, _, _, _, .fptr .. => rfl
  | _, _, _, _, .nilf _ => rfl
  | _, _, _, _, .func .. => rfl
  | _, _, _, _, .nilm .. => rfl
  | _, _, _, _, .map .. => rfl
  | _, _, _, _, .nili _ => rfl
theorem RepL.len {T : Tab} (hT : TabSz T) : ∀ {c : Cx} {ts : List TypeId} {vs : List AV} {cs : List Value}, RepL T c ts vs cs → cs.length = T.sum ts
  | _, _, _, _, .nil _ => rfl
  | _, _, _, _, .cons _ t d ts v vs cs ds ht h hs => by rw [List.length_append, h.len hT, hs.len hT, Tab.sum, hT t d ht]
end
mutual
theorem RepV.one {T : Tab} : ∀ {c : Cx} {d : Ty} {v : AV} {cs : List Value}, RepV T c d v cs → ∀ u ∈ cs, u.oneCell' = true
  | _, _, _, _, .agg _ t d ts vs cs ht hd h => h.one
  | _, _, _, _, .bool _ b => by intro u hu; obtain rfl := List.mem_singleton.1 hu; rfl
  | _, _, _, _, .int _ k n => by intro u hu; obtain rfl := List.mem_singleton.1 hu; rfl
  | _, _, _, _, .str _ s => by intro u hu; obtain rfl := List.mem_singleton.1 hu; rfl
  | _, _, _, _, .mt _ e b a h => by intro u hu; obtain rfl := List.mem_singleton.1 hu; rfl
  | _, _, _, _, .list0 _ e b a cap tok h hk => by intro u hu; obtain rfl := List.mem_singleton.1 hu; rfl
  | _, _, _, _, .list _ e xs cs b o cap tok h hF hne hcap hk => by intro u hu; obtain rfl := List.mem_singleton.1 hu; rfl
  | _, _, _, _, .view .. => by intro u hu; obtain rfl := List.mem_singleton.1 hu; rfl
  | _, _, _, _, .nilp _ => by intro u hu; obtain rfl := List.mem_singleton.1 hu; rfl
  | _, _, _, _, .ptr .. => by intro u hu; obtain rfl := List.mem_singleton.1 hu; rfl
  | _, _, _, _, .fptr .. => by intro u hu; obtain rfl := List.mem_singleton.1 hu; rfl
  | _, _, _, _, .nilf _ => by intro u hu; obtain rfl := List.mem_singleton.1 hu; rfl
  | _, _, _, _, .func .. => by intro u hu; obtain rfl := List.mem_singleton.1 hu; rfl
  | _, _, _, _, .nilm .. => by intro u hu; obtain rfl := List.mem_singleton.1 hu; rfl
  | _, _, _, _, .map .. => by intro u hu; obtain rfl := List.mem_singleton.1 hu; rfl
  | _, _, _, _, .nili _ => by intro u hu; obtain rfl := List.mem_singleton.1 hu; rfl
theorem RepL.one {T : Tab} : ∀ {c : Cx} {ts : List TypeId} {vs : List AV} {cs : List Value}, RepL T c ts vs cs → ∀ u ∈ cs, u.oneCell' = true
  | _, _, _, _, .nil _ => by intro u hu; cases hu
  | _, _, _, _, .cons _ t d ts v vs cs ds ht h hs => by
    intro u hu
    rcases List.mem_append.1 hu with hu | hu
    · exact h.one u hu
    · exact hs.one u hu
end
mutual
theorem RepV.close {T : Tab} : ∀ {c : Cx} {d : Ty} {v : AV} {cs : List Value}, RepV T c d v cs → pure1 v = true → RepV T c.closed d v cs
  | _, _, _, _, .bool _ b, _ => .bool _ b
  | _, _, _, _, .int _ k n, _ => .int _ k n
  | _, _, _, _, .str _ s, _ => .str _ s
  | _, _, _, _, .agg _ t d ts vs cs ht hd h, hp => .agg _ t d ts vs cs ht hd (h.close (by simpa [pure1] using hp))
  | _, _, _, _, .mt _ e b a h, _ => .mt _ e b a h
  | _, _, _, _, .list0 _ e b a cap tok h hk, hp => by
    exact .list0 _ e b a cap tok h (hk.any (by simpa [pure1] using hp))
  | _, _, _, _, .list c e xs cs b o cap tok h hF hne hcap hk, hp => by
    exact .list _ e xs cs b o cap tok h hF hne hcap (hk.any (by simpa [pure1] using hp))
  | _, _, _, _, .view .., hp => by simp [pure1] at hp
  | _, _, _, _, .nilp _, _ => .nilp _
  | _, _, _, _, .ptr .., hp => by simp [pure1] at hp
  | _, _, _, _, .fptr _ t d v cs b o ht h hF, _ => .fptr _ t d v cs b o ht h hF
  | _, _, _, _, .nilf _, _ => .nilf _
  | _, _, _, _, .func .., hp => by simp [pure1] at hp
  | _, _, _, _, .nilm _ k v, _ => .nilm _ k v
  | _, _, _, _, .map .., hp => by simp [pure1] at hp
  | _, _, _, _, .nili _, _ => .nili _
theorem RepL.close {T : Tab} : ∀ {c : Cx} {ts : List TypeId} {vs : List AV} {cs : List Value}, RepL T c ts vs cs → pureL vs = true → RepL T c.closed ts vs cs
  | _, _, _, _, .nil _, _ => .nil _
  | _, _, _, _, .cons _ t d ts v vs cs ds ht h hs, hp => by
    simp only [pureL, Bool.and_eq_true] at hp
    exact .cons _ t d ts v vs cs ds ht (h.close hp.1) (hs.close hp.2)
end
theorem RepV.open {T : Tab} {c : Cx} {d : Ty} {v : AV} {cs : List Value} (h : RepV T c.closed d v cs) : RepV T c d v cs := h.ext (.of_closed fun _ _ _ h => h)
theorem RepL.open {T : Tab} {c : Cx} {ts : List TypeId} {vs : List AV} {cs : List Value} (h : RepL T c.closed ts vs cs) : RepL T c ts vs cs := h.ext (.of_closed fun _ _ _ h => h)
theorem same_ty {T : Tab} {s t : TypeId} (h : T.same s t = true) : T.ty s = T.ty t := by
  unfold Tab.same at h
  simp only [Bool.or_eq_true, Bool.and_eq_true, beq_iff_eq] at h
  rcases h with rfl | ⟨_, h⟩
  · rfl
  · exact h
/-- A value that may stand in a variable reads as one of its type. -/
theorem RepV.fit {T : Tab} {c : Cx} {d : Ty} {v : AV} {cs : List Value} {t : TypeId} (h : RepV T c d v cs) (hf : fits T t v = true) : ∃ d', T.ty t = some d' ∧ RepV T c d' v cs := by
  cases h with
  | bool _ b => exact ⟨_, by simpa [fits] using hf, .bool _ b⟩
  | int _ k n => exact ⟨_, by simpa [fits] using hf, .int _ k n⟩
  | str _ s => exact ⟨_, by simpa [fits] using hf, .str _ s⟩
  | agg _ s _ ts vs _ ht hd h => exact ⟨d, (same_ty (by simpa [fits] using hf)).symm.trans ht, .agg _ s d ts vs _ ht hd h⟩
  | mt _ e b a h =>
    simp only [fits] at hf
    split at hf
    · rename_i e' he; exact ⟨_, he, .mt _ e' b a h⟩
    · cases hf
  | list0 _ e b a cap tok h hk => exact ⟨_, by simpa [fits] using hf, .list0 _ e b a cap tok h hk⟩
  | list _ e xs cs b o cap tok h hF hne hcap hk => exact ⟨_, by simpa [fits] using hf, .list _ e xs cs b o cap tok h hF hne hcap hk⟩
  | view _ e id path off len o cap hi hl hcap => exact ⟨_, by simpa [fits] using hf, .view _ e id path off len o cap hi hl hcap⟩
  | nilp _ => exact ⟨_, by simpa [fits] using hf, .nilp _⟩
  | ptr _ t id path o hi hl => exact ⟨_, by simpa [fits] using hf, .ptr _ t id path o hi hl⟩
  | fptr _ t d v cs b o ht h hF => exact ⟨_, by simpa [fits] using hf, .fptr _ t d v cs b o ht h hF⟩
  | nilf _ => exact ⟨_, by simpa [fits] using hf, .nilf _⟩
  | func _ f caps ws h => exact ⟨_, by simpa [fits] using hf, .func _ f caps ws h⟩
  | nilm _ k v =>
    simp only [fits] at hf
    split at hf
    · rename_i k' v' he; exact ⟨_, he, .nilm _ k' v'⟩
    · cases hf
  | map _ k v id hi =>
    simp only [fits] at hf
    split at hf
    · rename_i k' v' he; exact ⟨_, he, .map _ k' v' id hi⟩
    · cases hf
  | nili _ => exact ⟨_, by simpa [fits] using hf, .nili _⟩

/-- cs' is cs, from o on with us in it. -/
structure Spl (cs : List Value) (o : Nat) (us cs' : List Value) : Prop where
  room : o + us.length ≤ cs.length
  len : cs'.length = cs.length
  get : ∀ j, cs'[j]? = if o ≤ j ∧ j < o + us.length then us[j - o]? else cs[j]?
theorem Spl.comp {cs us u' us' cs' : List Value} {o p : Nat} (h1 : Spl us p u' us') (h2 : Spl cs o us' cs') (hs : ∀ j, j < us.length → cs[o + j]? = us[j]?) : Spl cs (o + p) u' cs' := by
  have l1 := h1.len
  have r1 := h1.room
  have r2 := h2.room
  refine ⟨by omega, h2.len, fun j => ?_⟩
  rw [h2.get j]
  by_cases c : o ≤ j ∧ j < o + us'.length
  · rw [if_pos c, h1.get (j - o)]
    by_cases c2 : p ≤ j - o ∧ j - o < p + u'.length
    · rw [if_pos c2, if_pos (by omega), show j - o - p = j - (o + p) by omega]
    · rw [if_neg c2, if_neg (by omega), ← hs (j - o) (by omega), show o + (j - o) = j by omega]
  · rw [if_neg c, if_neg (by omega)]
theorem Spl.whole {us us' : List Value} (h : us'.length = us.length) : Spl us 0 us' us' :=
  ⟨by omega, h, fun j => by
    by_cases c : 0 ≤ j ∧ j < 0 + us'.length
    · rw [if_pos c]; rfl
    · rw [if_neg c, List.getElem?_eq_none (by omega), List.getElem?_eq_none (by omega)]⟩
theorem Spl.mid (A us us' B : List Value) (h : us'.length = us.length) : Spl (A ++ (us ++ B)) A.length us' (A ++ (us' ++ B)) := by
  refine ⟨by simp; omega, by simp [h], fun j => ?_⟩
  by_cases c : A.length ≤ j ∧ j < A.length + us'.length
  · rw [if_pos c, List.getElem?_append_right c.1, List.getElem?_append_left (by omega)]
  · rw [if_neg c]
    by_cases c1 : j < A.length
    · rw [List.getElem?_append_left c1, List.getElem?_append_left c1]
    · rw [List.getElem?_append_right (by omega), List.getElem?_append_right (by omega), List.getElem?_append_right (by omega), List.getElem?_append_right (by omega), h]
/-- The i-th part. -/
theorem RepL.nth {T : Tab} (hT : TabSz T) {c : Cx} : ∀ {ts : List TypeId} {vs : List AV} {cs : List Value} (_ : RepL T c ts vs cs) (i : Nat) {v : AV} (_ : vs[i]? = some v),
    ∃ t d us A B, ts[i]? = some t ∧ T.ty t = some d ∧ RepV T c d v us ∧ cs = A ++ (us ++ B) ∧ A.length = T.sum (ts.take i) ∧
      ∀ v' us', RepV T c d v' us' → RepL T c ts (vs.set i v') (A ++ (us' ++ B))
  | _, _, _, .nil _, i, v, h => by simp at h
  | _, _, _, .cons _ t d ts v0 vs cs ds ht h0 hs, 0, v, h => by
    simp only [List.getElem?_cons_zero, Option.some.injEq] at h
    subst h
    exact ⟨t, d, cs, [], ds, rfl, ht, h0, rfl, rfl, fun v' us' hv' => .cons _ t d ts v' vs us' ds ht hv' hs⟩
  | _, _, _, .cons _ t d ts v0 vs cs ds ht h0 hs, i + 1, v, h => by
    simp only [List.getElem?_cons_succ] at h
    obtain ⟨t', d', us, A, B, h1, h2, h3, rfl, h5, h6⟩ := hs.nth hT i h
    refine ⟨t', d', us, cs ++ A, B, by simpa using h1, h2, h3, by simp, ?_, fun v' us' hv' => ?_⟩
    · rw [List.length_append, h5, List.take_succ_cons, Tab.sum, h0.len hT, hT t d ht]
    · have := RepL.cons _ t d ts v0 _ cs _ ht h0 (h6 v' us' hv')
      simpa using this
theorem comps_nth {T : Tab} {d : Ty} {t : TypeId} {ts : List TypeId} (ht : T.ty t = some d) (hd : Tab.comps d = some ts) {i : Nat} {u : TypeId} (hi : ts[i]? = some u) (p : List Nat) :
    T.sub t (i :: p) = (T.sub u p).map fun x => (T.sum (ts.take i) + x.1, x.2) := by
  cases d <;> simp [Tab.comps] at hd
  · rename_i n e
    subst hd
    obtain ⟨hlt, rfl⟩ : i < n ∧ e = u := by rw [List.getElem?_replicate] at hi; split at hi <;> simp_all
    simp only [Tab.sub, ht, List.take_replicate, sum_replicate, Nat.min_eq_left (Nat.le_of_lt hlt)]
  · subst hd
    simp only [Tab.sub, ht, hi]
/-- The part at a path. -/
theorem RepV.part {T : Tab} (hT : TabSz T) {c : Cx} : ∀ (p : List Nat) {d : Ty} {v u : AV} {cs : List Value} {t : TypeId}, RepV T c d v cs → T.ty t = some d → v.at p = some u →
    ∃ o t' d' us, T.sub t p = some (o, t') ∧ T.ty t' = some d' ∧ RepV T c d' u us ∧ (∀ j, j < us.length → cs[o + j]? = us[j]?) ∧
      ∀ u' us', RepV T c d' u' us' → ∃ v' cs', v.put p u' = some v' ∧ RepV T c d v' cs' ∧ Spl cs o us' cs'
  | [], d, v, u, cs, t, h, ht, hu => by
    have hu : v = u := by cases v <;> simpa [AV.at] using hu
    subst hu
    refine ⟨0, t, d, cs, rfl, ht, h, fun j _ => by simp, fun u' us' hv' => ⟨u', us', by cases v <;> rfl, hv', .whole ?_⟩⟩
    rw [hv'.len hT, h.len hT]
  | i :: p, d, v, u, cs, t, h, ht, hu => by
    cases h with
    | agg _ s _ ts vs _ hs hd h =>
      simp only [AV.at] at hu
      split at hu
      · rename_i w hw
        obtain ⟨t1, d1, us1, A, B, h1, h2, h3, rfl, h5, h6⟩ := h.nth hT i hw
        obtain ⟨o, t', d', us, g1, g2, g3, g4, g5⟩ := RepV.part hT p h3 h2 hu
        refine ⟨T.sum (ts.take i) + o, t', d', us, by rw [comps_nth ht hd h1, g1]; rfl, g2, g3, fun j hj => ?_, fun u' us' hu' => ?_⟩
        · have hlt : o + j < us1.length := by
            rcases Nat.lt_or_ge (o + j) us1.length with hl | hl
            · exact hl
            · have := g4 j hj; rw [List.getElem?_eq_none hl, List.getElem?_eq_getElem hj] at this; cases this
          rw [← h5, Nat.add_assoc, List.getElem?_append_right (by omega), show A.length + (o + j) - A.length = o + j by omega, List.getElem?_append_left hlt, g4 j hj]
        · obtain ⟨v', cs', e1, e2, e3⟩ := g5 u' us' hu'
          refine ⟨.agg s (vs.set i v'), A ++ (cs' ++ B), by simp only [AV.put, hw, e1, Option.map_some], .agg _ s d ts _ _ hs hd (h6 v' cs' e2), ?_⟩
          rw [← h5]
          exact Spl.comp e3 (Spl.mid A us1 cs' B e3.len) (fun j hj => by rw [List.getElem?_append_right (by omega), show A.length + j - A.length = j by omega, List.getElem?_append_left hj])
      · cases hu
    | bool => simp [AV.at] at hu
    | int => simp [AV.at] at hu
    | str => simp [AV.at] at hu
    | mt => simp [AV.at] at hu
    | list0 => simp [AV.at] at hu
    | list => simp [AV.at] at hu
    | view => simp [AV.at] at hu
    | nilp => simp [AV.at] at hu
    | ptr => simp [AV.at] at hu
    | fptr => simp [AV.at] at hu
    | nilf => simp [AV.at] at hu
    | func => simp [AV.at] at hu
    | nilm => simp [AV.at] at hu
    | map => simp [AV.at] at hu
    | nili => simp [AV.at] at hu
/-- The part of a row at a path. -/
theorem RepL.part {T : Tab} (hT : TabSz T) {c : Cx} {e : TypeId} {vs : List AV} {cs : List Value} (h : RepL T c (List.replicate vs.length e) vs cs) {p : List Nat} {u : AV} (hu : rowAt vs p = some u) :
    ∃ o t' d' us, T.loc e p = some (o, t') ∧ T.ty t' = some d' ∧ RepV T c d' u us ∧ (∀ j, j < us.length → cs[o + j]? = us[j]?) ∧
      ∀ u' us', RepV T c d' u' us' → ∃ vs' cs', rowPut vs p u' = some vs' ∧ vs'.length = vs.length ∧ RepL T c (List.replicate vs.length e) vs' cs' ∧ Spl cs o us' cs' := by
  cases p with
  | nil => simp [rowAt] at hu
  | cons i p =>
    simp only [rowAt] at hu
    split at hu
    · rename_i w hw
      obtain ⟨t1, d1, us1, A, B, h1, h2, h3, rfl, h5, h6⟩ := h.nth hT i hw
      obtain ⟨o, t', d', us, g1, g2, g3, g4, g5⟩ := RepV.part hT p h3 h2 hu
      obtain ⟨hlt, rfl⟩ : i < vs.length ∧ e = t1 := by rw [List.getElem?_replicate] at h1; split at h1 <;> simp_all
      rw [List.take_replicate, sum_replicate, Nat.min_eq_left (Nat.le_of_lt hlt)] at h5
      refine ⟨i * T.size e + o, t', d', us, by simp only [Tab.loc, g1, Option.map_some], g2, g3, fun j hj => ?_, fun u' us' hu' => ?_⟩
      · have hl : o + j < us1.length := by
          rcases Nat.lt_or_ge (o + j) us1.length with hl | hl
          · exact hl
          · have := g4 j hj; rw [List.getElem?_eq_none hl, List.getElem?_eq_getElem hj] at this; cases this
        rw [← h5, Nat.add_assoc, List.getElem?_append_right (by omega), show A.length + (o + j) - A.length = o + j by omega, List.getElem?_append_left hl, g4 j hj]
      · obtain ⟨v', cs', e1, e2, e3⟩ := g5 u' us' hu'
        refine ⟨vs.set i v', A ++ (cs' ++ B), by simp only [rowPut, hw, e1, Option.map_some], by simp, h6 v' cs' e2, ?_⟩
        rw [← h5]
        exact Spl.comp e3 (Spl.mid A us1 cs' B e3.len) (fun j hj => by rw [List.getElem?_append_right (by omega), show A.length + j - A.length = j by omega, List.getElem?_append_left hj])
    · cases hu
end Go.Proofs.Yticlihmbikcohaa.Va
