/- chapter 18: what is told, states, small functions -/
import Derived.Test.YticlihmbikcohaaEigK
import Derived.Test.YticlihmbikcohaaVaCu
import Derived.Test.YticlihmbikcohaaVaRw

namespace Go.Proofs.Yticlihmbikcohaa.Va
open Go
set_option linter.unusedVariables false
set_option linter.unusedSimpArgs false
set_option maxRecDepth 100000
structure Wht where
  kind : Int
  type : Int
  id : Int
  link : Int
  maybe : Bool
  lo : Int
  hi : Int
  deriving DecidableEq
def junk : Wht := ⟨0, 0, 0, 0, false, 0, 0⟩
instance : Inhabited Wht := ⟨junk⟩
def encW (w : Wht) : AV := .agg 38 [.int .i64 w.kind, .int .i64 w.type, .int .i64 w.id, .int .i64 w.link, .bool w.maybe, .agg 36 [.int .u64 w.lo, .int .u64 w.hi]]
structure Sta where
  regs : List Wht
  slots : List Wht
  refs : List Int
  lock : Int
  sec : Bool
  next : Int
def encS (s : Sta) (r : AV) : AV := .agg 43 [.agg 39 (s.regs.map encW), .agg 40 (s.slots.map encW), r, .int .i64 s.lock, .bool s.sec, .int .i64 s.next]
/-- a row of numbers that is only looked at -/
def RefA (r : AV) (xs : List Int) : Prop := (xs = [] ∧ ∃ b, r = .mt b) ∨ ∃ b tok, r = .list 3 b (intsA xs) tok ∧ (b = true → xs = [])
structure Mp where
  hash : Bool
  len : Int
  type : Int
instance : Inhabited Mp := ⟨⟨false, 0, 0⟩⟩
def encM (m : Mp) : AV := .agg 71 [.bool m.hash, .int .i64 m.len, .int .i64 m.type]
/-- types and maps -/
structure Kx where
  bl : Bool
  l : List Typ
  bm : Bool
  ms0 : List Mp
  mt : Bool := false
  mtl : Bool := false
def Kx.ms (K : Kx) : List Mp := if K.mt = true then [] else K.ms0
def mapsV (K : Kx) : AV := if K.mt = true then .mt K.bm else .list 71 K.bm (K.ms.map encM) none
def typesV (K : Kx) : AV := if K.mtl = true then .mt K.bl else .list 52 K.bl (K.l.map encTy) none
theorem typesV_or (K : Kx) : typesV K = .list 52 K.bl (K.l.map encTy) none ∨ typesV K = .mt K.bl := by
  unfold typesV
  cases K.mtl
  · exact .inl (by simp)
  · exact .inr (by simp)
@[go_sem] theorem typesV_fits (K : Kx) : fits T 48 (typesV K) = true := by rcases typesV_or K with h | h <;> rw [h] <;> kernel_rfl
@[go_sem] theorem typesV_fz (σ : St) (K : Kx) : freeze σ (typesV K) = some (typesV K) := by rcases typesV_or K with h | h <;> rw [h] <;> rfl
@[go_sem] theorem typesV_strip (K : Kx) : strip (typesV K) = typesV K := by rcases typesV_or K with h | h <;> rw [h] <;> simp only [strip]
@[go_sem] theorem typesV_views (K : Kx) : viewIds (typesV K) = [] := by rcases typesV_or K with h | h <;> rw [h] <;> simp only [viewIds]
@[go_sem] theorem typesV_pure (K : Kx) : pure1 (typesV K) = true := by rcases typesV_or K with h | h <;> rw [h] <;> simp only [pure1, fullT]
theorem typesV_noPtr (K : Kx) (l : List AV) : noPtr (typesV K :: l) = true := by rcases typesV_or K with h | h <;> rw [h] <;> rfl
theorem mapsV_or (K : Kx) : mapsV K = .list 71 K.bm (K.ms.map encM) none ∨ mapsV K = .mt K.bm ∧ K.ms = [] := by
  unfold mapsV Kx.ms
  cases K.mt
  · exact .inl (by simp)
  · exact .inr (by simp)
@[go_sem] theorem mapsV_fits (K : Kx) : fits T 54 (mapsV K) = true := by rcases mapsV_or K with h | ⟨h, _⟩ <;> rw [h] <;> kernel_rfl
@[go_sem] theorem mapsV_fz (σ : St) (K : Kx) : freeze σ (mapsV K) = some (mapsV K) := by rcases mapsV_or K with h | ⟨h, _⟩ <;> rw [h] <;> rfl
@[go_sem] theorem mapsV_strip (K : Kx) : strip (mapsV K) = mapsV K := by rcases mapsV_or K with h | ⟨h, _⟩ <;> rw [h] <;> simp only [strip]
@[go_sem] theorem mapsV_views (K : Kx) : viewIds (mapsV K) = [] := by rcases mapsV_or K with h | ⟨h, _⟩ <;> rw [h] <;> simp only [viewIds]
@[go_sem] theorem mapsV_pure (K : Kx) : pure1 (mapsV K) = true := by rcases mapsV_or K with h | ⟨h, _⟩ <;> rw [h] <;> simp only [pure1, fullT]
structure Cal where
  st : Sta
  x : Wht
  y : Wht
  n : Int
  tells : Wht
  err : Int
def encC (K : Kx) (c : Cal) (r : AV) : AV := .agg 123 [.list 52 K.bl (K.l.map encTy) none, mapsV K, encS c.st r, encW c.x, encW c.y, .int .i64 c.n, encW c.tells, .int .i64 c.err]
attribute [go_sem] encW encS encC encM
/-- The call that is looked at is the object id. -/
def At (K : Kx) (σ : St) (id : Nat) (c : Cal) : Prop := id < σ.next ∧ ∃ r, RefA r c.st.refs ∧ σ.obj id = some (.cells 123 [encC K c r])
/-- Nothing else turned. -/
def Keeps (σ σ' : St) (id : Nat) : Prop := σ.next ≤ σ'.next ∧ ∀ j, j < σ.next → j ≠ id → σ'.obj j = σ.obj j
theorem Keeps.refl (σ : St) (id : Nat) : Keeps σ σ id := ⟨Nat.le_refl _, fun _ _ _ => rfl⟩
theorem Keeps.trans {a b c : St} {id : Nat} (h : Keeps a b id) (g : Keeps b c id) : Keeps a c id := ⟨Nat.le_trans h.1 g.1, fun j hj hn => (g.2 j (Nat.lt_of_lt_of_le hj h.1) hn).trans (h.2 j hj hn)⟩
theorem Contains_c (d : Nat) (b : Bool) (ks : List Int) (k : Int) (hl : ks.length ≤ 9223372036854775807) : evalF Try.prog CC (d + 3) 87 [.list 3 b (intsA ks) none, .int .i64 k] St.empty = some (.bool (ks.contains k), St.empty) := by
  have hil : (intsA ks).length = ks.length := by simp [intsA]
  have key : Sat (fun p => p.2 = St.empty ∧ ∃ i : Int, p.1 = .int .i64 i ∧ (i ≥ 0 ↔ ks.contains k = true)) (evalF Try.prog CC (d + 2) 105 [.list 3 b (intsA ks) none, .int .i64 k] St.empty) := by
    refine Sat.go ?_
    rw [run_105 _ _ _ (by simp)]; unfold Try.f105; simp only [Option.getD_some]
    simp only [go_sem, hil]
    refine W.iter_rule (fun i ρ σ => ρ 0 = .list 3 b (intsA ks) none ∧ ρ 1 = .int .i64 k ∧ ρ 7 = .int .i64 ks.length ∧ ρ 8 = .int .i64 i ∧ k ∉ ks.take i) ks.length ?_ ?_ _ 0 _ _ (Nat.zero_le _) ?_ ?_
    · rintro i ρ σ hi ⟨h0, h1, h7, h8, hk⟩ K hK hx hr
      have hlt : (i : Int) < (ks.length : Int) := by omega
      have hwrap : IntKind.i64.wrap ((i : Int) + 1) = ((i + 1 : Nat) : Int) := by rw [IntKind.wrap_i64]; omega
      have hidx : idxOk (i : Int) ks.length = true := by simp [idxOk]; omega
      have hget : (intsA ks)[((i : Nat) : Int).toNat]? = some (.int .i64 ks[i]) := by simp [intsA, hi]
      have hsn : ks.take (i + 1) = ks.take i ++ [ks[i]] := List.take_succ_eq_append_getElem hi
      have hmem : ks[i] ∈ ks := List.getElem_mem hi
      generalize ks[i] = q at hget hsn hmem
      simp only [go_sem, h0, h1, h7, h8, hlt, hil, hidx, hget, hwrap]
      refine W.br_dec (fun hq => ?_) (fun hq => ?_)
      · subst hq
        simp only [go_sem, h0, h1, h7, h8, hr]
        exact wp_some ⟨rfl, _, rfl, by simp [hmem]⟩
      · simp only [go_sem, h0, h1, h7, h8, hr, hq, hwrap]
        refine hK _ _ ?_
        refine ⟨by (try simp only [go_sem, Int.toNat_natCast, List.length_take, *]) <;> first | done | rfl | omega | (simp <;> omega), by (try simp only [go_sem, Int.toNat_natCast, List.length_take, *]) <;> first | done | rfl | omega | (simp <;> omega), by (try simp only [go_sem, Int.toNat_natCast, List.length_take, *]) <;> first | done | rfl | omega | (simp <;> omega), by (try simp only [go_sem, Int.toNat_natCast, List.length_take, *]) <;> first | done | rfl | omega | (simp <;> omega), ?_⟩
        rw [hsn]
        simp only [List.mem_append, List.mem_singleton]
        rintro (h | h)
        · exact hk h
        · exact hq h
    · rintro ρ σ ⟨h0, h1, h7, h8, hk⟩ K hx hr
      have hlt : ¬ (ks.length : Int) < (ks.length : Int) := by omega
      rw [List.take_length] at hk
      simp only [go_sem, hx, h0, h1, h7, h8, hlt]
      exact wp_some ⟨rfl, _, rfl, by simp [hk]⟩
    · show ks.length < 0 + 9223372036854775900
      omega
    · exact ⟨by (try simp only [go_sem, Int.toNat_natCast, List.length_take, *]) <;> first | done | rfl | omega | (simp <;> omega), by (try simp only [go_sem, Int.toNat_natCast, List.length_take, *]) <;> first | done | rfl | omega | (simp <;> omega), by (try simp only [go_sem, Int.toNat_natCast, List.length_take, *]) <;> first | done | rfl | omega | (simp <;> omega), by (try simp only [go_sem, Int.toNat_natCast, List.length_take, *]) <;> first | done | rfl | omega | (simp <;> omega), by simp⟩
  obtain ⟨⟨v, s⟩, h1, h2, i, h3, h4⟩ := key
  simp only at h2 h3
  subst h2 h3
  refine wp_eq ?_
  rw [run_87 _ _ _ (by simp)]; unfold Try.f87; simp only [Option.getD_some]
  simp only [go_sem, h1]
  cases hc : ks.contains k
  · have : ¬ i ≥ 0 := fun h => by rw [h4.1 h] at hc; cases hc
    simp only [go_sem, this]
    rfl
  · have : i ≥ 0 := h4.2 hc
    simp only [go_sem, this]
    rfl
def handS (w : Wht) (ks : List Int) : Bool := !w.maybe && ks.contains w.kind
theorem hand_c (d : Nat) (w : Wht) (b : Bool) (ks : List Int) (hl : ks.length ≤ 9223372036854775807) : evalF Try.prog CC (d + 4) 91 [encW w, .list 3 b (intsA ks) none] St.empty = some (.bool (handS w ks), St.empty) := by
  have hc := fun d => Contains_c d b ks w.kind hl
  refine wp_eq ?_
  rw [run_91 _ _ _ (by simp)]; unfold Try.f91; simp only [Option.getD_some]
  simp only [go_sem, hc]
  unfold handS
  generalize ks.contains w.kind = q at hc ⊢
  cases w.maybe <;> cases q
  all_goals
    simp only [go_sem, hc]
    rfl
theorem hand1 (d : Nat) (w : Wht) (a : Int) : evalF Try.prog CC (d + 4) 91 [encW w, .list 3 false [.int .i64 a] none] St.empty = some (.bool (handS w [a]), St.empty) := hand_c d w false [a] (by simp)
theorem hand2 (d : Nat) (w : Wht) (a b : Int) : evalF Try.prog CC (d + 4) 91 [encW w, .list 3 false [.int .i64 a, .int .i64 b] none] St.empty = some (.bool (handS w [a, b]), St.empty) := hand_c d w false [a, b] (by simp)
theorem hand3 (d : Nat) (w : Wht) (a b c : Int) : evalF Try.prog CC (d + 4) 91 [encW w, .list 3 false [.int .i64 a, .int .i64 b, .int .i64 c] none] St.empty = some (.bool (handS w [a, b, c]), St.empty) := hand_c d w false [a, b, c] (by simp)
theorem Keeps.trim {σ τ : St} {id : Nat} (h : Keeps σ τ id) : Keeps σ (τ.trim σ.next) id := ⟨h.1, fun j hj hn => by
  show (if j < σ.next then τ.obj j else none) = _
  rw [if_pos hj]; exact h.2 j hj hn⟩
theorem At.trim {K : Kx} {σ τ : St} {id : Nat} {c : Cal} (h : At K τ id c) (hid : id < σ.next) : At K (τ.trim σ.next) id c := by
  obtain ⟨h1, r, hr, ho⟩ := h
  refine ⟨h1, r, hr, ?_⟩
  show (if id < σ.next then τ.obj id else none) = _
  rw [if_pos hid]; exact ho
theorem Keeps.set {σ τ : St} {id : Nat} (h : Keeps σ τ id) (o : AObj) : Keeps σ (τ.set id o) id := ⟨h.1, fun j hj hn => by
  show (if j = id then some o else τ.obj j) = _
  rw [if_neg hn]; exact h.2 j hj hn⟩
theorem Keeps.new {σ τ : St} {id : Nat} (h : Keeps σ τ id) (o : AObj) : Keeps σ (τ.new o) id := ⟨Nat.le_trans h.1 (Nat.le_succ _), fun j hj hn => by
  show (if j = τ.next then some o else τ.obj j) = _
  rw [if_neg (by have := h.1; omega)]; exact h.2 j hj hn⟩
theorem Keeps.tok {σ τ : St} {id : Nat} (h : Keeps σ τ id) (q : Option Nat) : Keeps σ (τ.tokNew q) id := ⟨h.1, h.2⟩
theorem Keeps.other {σ τ : St} {id j : Nat} (h : Keeps σ τ id) (o : AObj) (hj : σ.next ≤ j) : Keeps σ (τ.set j o) id := ⟨h.1, fun k hk hn => by
  show (if k = j then some o else τ.obj k) = _
  rw [if_neg (by omega)]; exact h.2 k hk hn⟩
theorem keepT {σ : St} {o o' : AObj} {j : Nat} (hj : j < σ.next) : (((σ.new o).set σ.next o').trim σ.next).obj j = σ.obj j := by
  show (if j < σ.next then (if j = σ.next then some o' else if j = σ.next then some o else σ.obj j) else none) = _
  rw [if_pos hj, if_neg (by omega), if_neg (by omega)]
theorem keepN {σ : St} {o o' : AObj} {j : Nat} {x : AObj} (hj : j < σ.next) (h : σ.obj j = some x) : ((σ.new o).set σ.next o').obj j = some x := by
  show (if j = σ.next then some o' else if j = σ.next then some o else σ.obj j) = _
  rw [if_neg (by omega), if_neg (by omega)]; exact h
theorem fin_c {K : Kx} {σ τ : St} {id : Nat} {c : Cal} {v v' : AV} (hid : id < σ.next) (hA : At K τ id c) (hk : Keeps σ τ id) (hv : v = v') : Wp (Sat fun p => p.1 = v' ∧ At K p.2 id c ∧ Keeps σ p.2 id) (some (v, τ.trim σ.next)) :=
  wp_some ⟨hv, hA.trim hid, hk.trim⟩
/-- an error is kept, unless something holds -/
def wantS (c : Cal) (b : Bool) (e : Int) : Cal := if c.err = 0 ∧ b = false then { c with err := e } else c
def okS (c : Cal) : Bool := decide (c.err = 0)
theorem want_c (d : Nat) {K : Kx} {σ : St} {id : Nat} {c : Cal} (h : At K σ id c) (b : Bool) (e : Int) :
    Sat (fun p => p.1 = .bool (okS (wantS c b e)) ∧ At K p.2 id (wantS c b e) ∧ Keeps σ p.2 id) (evalF Try.prog CC (d + 1) 89 [.ptr 123 id [0], .bool b, .int .i64 e] σ) := by
  obtain ⟨hid, r, hr, hob⟩ := h
  refine Sat.go ?_
  rw [run_89 _ _ _ (by simp)]; unfold Try.f89; simp only [Option.getD_some]
  simp only [go_sem, hob]
  unfold wantS okS
  by_cases h0 : c.err = 0
  · cases b
    · simp only [go_sem, hob, h0]
      exact fin_c hid ⟨hid, r, hr, if_pos rfl⟩ ((Keeps.refl σ id).set _) rfl
    · simp only [go_sem, hob, h0]
      exact fin_c hid ⟨hid, r, hr, hob⟩ (Keeps.refl σ id) rfl
  · rw [if_neg (fun h => h0 h.1)]
    simp only [go_sem, hob, h0]
    exact fin_c hid ⟨hid, r, hr, hob⟩ (Keeps.refl σ id) rfl
/-- a fresh pointer -/
def freshS (c : Cal) (k t : Int) (m : Bool) : Cal := { c with tells := ⟨k, t, c.st.next, 0, m, 0, 0⟩, st := { c.st with next := IntKind.i64.wrap (c.st.next + 1) } }
theorem fresh_c (d : Nat) {K : Kx} {σ : St} {id : Nat} {c : Cal} (h : At K σ id c) (k t : Int) (m : Bool) :
    Sat (fun p => p.1 = .tup [] ∧ At K p.2 id (freshS c k t m) ∧ Keeps σ p.2 id) (evalF Try.prog CC (d + 1) 93 [.ptr 123 id [0], .int .i64 k, .int .i64 t, .bool m] σ) := by
  obtain ⟨hid, r, hr, hob⟩ := h
  refine Sat.go ?_
  rw [run_93 _ _ _ (by simp)]; unfold Try.f93; simp only [Option.getD_some]
  simp only [go_sem, hob]
  exact fin_c hid ⟨hid, r, hr, if_pos rfl⟩ (((Keeps.refl σ id).set _).set _) rfl
def oneW : Wht := ⟨1, 0, 0, 0, false, 0, 1⟩
def bitS (c : Cal) : Cal := { c with tells := oneW }
theorem bit_c (d : Nat) {K : Kx} {σ : St} {id : Nat} {c : Cal} (h : At K σ id c) :
    Sat (fun p => p.1 = .tup [] ∧ At K p.2 id (bitS c) ∧ Keeps σ p.2 id) (evalF Try.prog CC (d + 1) 94 [.ptr 123 id [0]] σ) := by
  obtain ⟨hid, r, hr, hob⟩ := h
  refine Sat.go ?_
  rw [run_94 _ _ _ (by simp)]; unfold Try.f94; simp only [Option.getD_some]
  simp only [go_sem, hob]
  exact fin_c hid ⟨hid, r, hr, if_pos rfl⟩ ((Keeps.refl σ id).set _) rfl
/-- a type's field; of a kind that isn't, if there is none -/
def noFld : Fld := ⟨0, 0, 0, 0, 0⟩
def typS (l : List Typ) (t : Int) : List Fld := if 0 ≤ t ∧ t < l.length then (at0 l t).fields else []
def fldS (l : List Typ) (t i : Int) : Fld := if 0 ≤ i ∧ i < (typS l t).length then at0 (typS l t) i else noFld
def okT (l : List Typ) (t : Int) : Bool := decide (0 ≤ t ∧ t < l.length)
def typV (l : List Typ) (t : Int) : AV := if 0 ≤ t ∧ t < l.length then encTy (at0 l t) else .agg 52 [.str ByteArray.empty, .bool false, .bool false, .mt true]
/-- typ, of a call that is only looked at -/
theorem typ_f (d : Nat) (K : Kx) (c : Cal) (r : AV) (σ : St) (t : Int) :
    Sat (fun p => p.1 = .tup [typV K.l t, .bool (okT K.l t)] ∧ σ.next ≤ p.2.next ∧ ∀ j, j < σ.next → p.2.obj j = σ.obj j) (evalF Try.prog CC (d + 1) 88 [.fptr 123 (encC K c r), .int .i64 t] σ) := by
  refine Sat.go ?_
  rw [run_88 _ _ _ (by simp)]; unfold Try.f88; simp only [Option.getD_some]
  simp only [go_sem, go_sem]
  by_cases h0 : t < 0
  · have hv : typV K.l t = .agg 52 [.str ByteArray.empty, .bool false, .bool false, .mt true] := if_neg (by omega)
    have ho : okT K.l t = false := by simp [okT]; omega
    rw [hv, ho]
    simp only [go_sem, h0]
    exact wp_some ⟨rfl, Nat.le_succ _, fun j hj => keepT hj⟩
  · by_cases h1 : t ≥ K.l.length
    · have hv : typV K.l t = .agg 52 [.str ByteArray.empty, .bool false, .bool false, .mt true] := if_neg (by omega)
      have ho : okT K.l t = false := by simp [okT]; omega
      rw [hv, ho]
      simp only [go_sem, h0, h1]
      exact wp_some ⟨rfl, Nat.le_succ _, fun j hj => keepT hj⟩
    · have hidx : idxOk t K.l.length = true := by simp [idxOk]; omega
      have hget : (K.l.map encTy)[t.toNat]? = some (encTy (at0 K.l t)) := by
        rw [List.getElem?_map, at0_get (by omega) (by omega)]; rfl
      have hv : typV K.l t = encTy (at0 K.l t) := if_pos (by omega)
      have ho : okT K.l t = true := by simp [okT]; omega
      rw [hv, ho]
      simp only [encTy] at hget
      simp only [go_sem, h0, h1, hidx, hget]
      exact wp_some ⟨rfl, Nat.le_succ _, fun j hj => keepT hj⟩
theorem typ_p (d : Nat) {K : Kx} {σ : St} {id : Nat} {c : Cal} (h : At K σ id c) (t : Int) :
    Sat (fun p => p.1 = .tup [typV K.l t, .bool (okT K.l t)] ∧ At K p.2 id c ∧ Keeps σ p.2 id) (evalF Try.prog CC (d + 1) 88 [.ptr 123 id [0], .int .i64 t] σ) := by
  obtain ⟨hid, r, hr, hob⟩ := h
  have hne := eq_false (show ¬ id = σ.next by omega)
  refine Sat.go ?_
  rw [run_88 _ _ _ (by simp)]; unfold Try.f88; simp only [Option.getD_some]
  simp only [go_sem, go_sem, hob, hne]
  by_cases h0 : t < 0
  · have hv : typV K.l t = .agg 52 [.str ByteArray.empty, .bool false, .bool false, .mt true] := if_neg (by omega)
    have ho : okT K.l t = false := by simp [okT]; omega
    rw [hv, ho]
    simp only [go_sem, h0, hob, hne]
    exact fin_c hid ⟨Nat.lt_succ_of_lt hid, r, hr, keepN hid hob⟩ (Keeps.other ((Keeps.refl σ id).new _) _ (Nat.le_refl _)) rfl
  · by_cases h1 : t ≥ K.l.length
    · have hv : typV K.l t = .agg 52 [.str ByteArray.empty, .bool false, .bool false, .mt true] := if_neg (by omega)
      have ho : okT K.l t = false := by simp [okT]; omega
      rw [hv, ho]
      simp only [go_sem, h0, h1, hob, hne]
      exact fin_c hid ⟨Nat.lt_succ_of_lt hid, r, hr, keepN hid hob⟩ (Keeps.other ((Keeps.refl σ id).new _) _ (Nat.le_refl _)) rfl
    · have hidx : idxOk t K.l.length = true := by simp [idxOk]; omega
      have hget : (K.l.map encTy)[t.toNat]? = some (encTy (at0 K.l t)) := by
        rw [List.getElem?_map, at0_get (by omega) (by omega)]; rfl
      have hv : typV K.l t = encTy (at0 K.l t) := if_pos (by omega)
      have ho : okT K.l t = true := by simp [okT]; omega
      rw [hv, ho]
      simp only [encTy] at hget
      simp only [go_sem, h0, h1, hidx, hget, hob, hne]
      exact fin_c hid ⟨Nat.lt_succ_of_lt hid, r, hr, keepN hid hob⟩ (Keeps.other ((Keeps.refl σ id).new _) _ (Nat.le_refl _)) rfl
theorem fld_c (d : Nat) (K : Kx) (c : Cal) (r : AV) (t i : Int) : evalF Try.prog CC (d + 2) 95 [.fptr 123 (encC K c r), .int .i64 t, .int .i64 i] St.empty = some (encF (fldS K.l t i), St.empty) := by
  refine wp_eq ?_
  rw [run_95 _ _ _ (by simp)]; unfold Try.f95; simp only [Option.getD_some]
  simp only [go_sem, *]
  refine W.call (typ_f d K c r _ t) ?_
  rintro v s ⟨h1, h2, h3⟩
  simp only at h1 h2 h3
  subst h1
  have h0 : s.obj 0 = some (.cells 61 [encF noFld]) := h3 0 (by decide)
  have hne := eq_false (show ¬ 0 = s.next by have : 1 ≤ s.next := h2; omega)
  clear h2 h3
  unfold fldS typS typV
  by_cases ht : 0 ≤ t ∧ t < K.l.length
  · simp only [if_pos ht]
    generalize at0 K.l t = u
    simp only [go_sem, h0, hne, noFld]
    by_cases hi0 : i < 0
    · rw [if_neg (by omega)]
      simp only [go_sem, h0, hne, hi0, noFld]
      rfl
    · by_cases hi1 : i ≥ u.fields.length
      · rw [if_neg (by omega)]
        simp only [go_sem, h0, hne, hi0, hi1, noFld]
        rfl
      · have hidx : idxOk i u.fields.length = true := by simp [idxOk]; omega
        have hget : (u.fields.map encF)[i.toNat]? = some (encF (at0 u.fields i)) := by
          rw [List.getElem?_map, at0_get (by omega) (by omega)]; rfl
        simp only [encF] at hget
        rw [if_pos (by omega)]
        simp only [go_sem, h0, hne, hi0, hi1, hidx, hget, noFld]
        rfl
  · simp only [if_neg ht]
    rw [if_neg (by simp only [List.length_nil]; omega)]
    simp only [go_sem, h0, hne, noFld]
    by_cases hi0 : i < 0
    · simp only [go_sem, h0, hne, hi0, noFld]
      rfl
    · have hi1 : i ≥ 0 := by omega
      simp only [go_sem, h0, hne, hi0, hi1, noFld]
      rfl
theorem RefA.frz {r : AV} {xs : List Int} (h : RefA r xs) : ∃ r', RefA r' xs ∧ (∀ σ, freeze σ r = some r') ∧ RefA (strip r') xs ∧ viewIds r = [] := by
  rcases h with ⟨rfl, b, rfl⟩ | ⟨b, tok, rfl, hb⟩
  · exact ⟨.mt b, .inl ⟨rfl, b, rfl⟩, fun σ => by simp only [freeze], .inl ⟨rfl, b, by simp only [strip]⟩, by simp only [viewIds]⟩
  · exact ⟨.list 3 b (intsA xs) (if fullT tok then tok else none), .inr ⟨b, _, rfl, hb⟩, fun σ => by simp only [freeze], .inr ⟨b, none, by simp only [strip], hb⟩, by simp only [viewIds]⟩
theorem frz_W (σ : St) : ∀ l : List Wht, freezeL σ (l.map encW) = some (l.map encW)
  | [] => by simp only [List.map_nil, freezeL]
  | w :: l => by rw [List.map_cons]; simp only [freezeL, freeze, frz_W σ l, encW, Option.map_some]
theorem strip_W : ∀ l : List Wht, stripL (l.map encW) = l.map encW
  | [] => by simp only [List.map_nil, stripL]
  | w :: l => by rw [List.map_cons]; simp only [stripL, strip, strip_W l, encW]
theorem view_W : ∀ l : List Wht, viewIdsL (l.map encW) = []
  | [] => by simp only [List.map_nil, viewIdsL]
  | w :: l => by rw [List.map_cons]; simp only [viewIdsL, viewIds, view_W l, encW, List.nil_append]
theorem wst (c : Cal) (b : Bool) (e : Int) : (wantS c b e).st = c.st := by unfold wantS; split <;> rfl
theorem wx (c : Cal) (b : Bool) (e : Int) : (wantS c b e).x = c.x := by unfold wantS; split <;> rfl
theorem wy (c : Cal) (b : Bool) (e : Int) : (wantS c b e).y = c.y := by unfold wantS; split <;> rfl
theorem wn (c : Cal) (b : Bool) (e : Int) : (wantS c b e).n = c.n := by unfold wantS; split <;> rfl
theorem wtells (c : Cal) (b : Bool) (e : Int) : (wantS c b e).tells = c.tells := by unfold wantS; split <;> rfl
def looseS (c : Cal) (f : Fld) : Cal := { c with tells := ⟨4, f.type, c.x.id, IntKind.i64.wrap (IntKind.i64.wrap (16 * c.x.type) + c.n), true, 0, 0⟩ }
theorem loose_c (d : Nat) {K : Kx} {σ : St} {id : Nat} {c : Cal} (h : At K σ id c) (f : Fld) :
    Sat (fun p => p.1 = .tup [] ∧ At K p.2 id (looseS c f) ∧ Keeps σ p.2 id) (evalF Try.prog CC (d + 1) 99 [.ptr 123 id [0], encF f] σ) := by
  obtain ⟨hid, r, hr, hob⟩ := h
  have hne := eq_false (show ¬ id = σ.next by omega)
  have hne2 := eq_false (show ¬ σ.next = id by omega)
  refine Sat.go ?_
  rw [run_99 _ _ _ (by simp)]; unfold Try.f99; simp only [Option.getD_some]
  simp only [go_sem, hob, hne, hne2]
  refine W.br_ok (by kernel_rfl) ?_
  simp only [go_sem, hob, hne, hne2]
  exact fin_c hid ⟨Nat.lt_succ_of_lt hid, r, hr, if_pos rfl⟩ (((Keeps.refl σ id).new _).set _) rfl
/-- the value is asked for, whether it is locked, and its field, whether it is of a kind -/
def lockS (K : Kx) (c : Cal) (k : Int) : Cal := wantS (wantS c (handS c.x [5] && decide (c.st.lock = c.x.id) && !decide (c.st.lock = 0)) 9) (decide ((fldS K.l c.x.type c.n).kind = k)) 7
theorem locked_c (d : Nat) {K : Kx} {σ : St} {id : Nat} {c : Cal} (h : At K σ id c) (k : Int) :
    Sat (fun p => p.1 = encF (fldS K.l c.x.type c.n) ∧ At K p.2 id (lockS K c k) ∧ Keeps σ p.2 id) (evalF Try.prog CC (d + 5) 100 [.ptr 123 id [0], .int .i64 k] σ) := by
  obtain ⟨hid, r, hr, hob⟩ := h
  have hne := eq_false (show ¬ id = σ.next by omega)
  have hh := fun d => hand1 d c.x 5
  simp only [encW] at hh
  have hfd := fun d r => fld_c d K (wantS c (handS c.x [5] && decide (c.st.lock = c.x.id) && !decide (c.st.lock = 0)) 9) r c.x.type c.n
  simp only [encC, encS, encW, encF, wst, wx, wy, wn, wtells] at hfd
  unfold lockS
  obtain ⟨b1, hb1⟩ : ∃ b, handS c.x [5] = b := ⟨_, rfl⟩
  obtain ⟨b2, hb2⟩ : ∃ b, decide (c.st.lock = c.x.id) = b := ⟨_, rfl⟩
  obtain ⟨b3, hb3⟩ : ∃ b, decide (c.st.lock = 0) = b := ⟨_, rfl⟩
  rw [hb1, hb2, hb3] at hfd ⊢
  refine Sat.go ?_
  rw [run_100 _ _ _ (by simp)]; unfold Try.f100; simp only [Option.getD_some]
  simp only [go_sem, hob, hne]
  refine W.br_ok (by kernel_rfl) ?_
  simp only [go_sem, hob, hne, hh]
  cases b1 <;> cases b2 <;> cases b3
  all_goals
    try simp only [Bool.and_false, Bool.and_true, Bool.false_and, Bool.true_and, Bool.not_true, Bool.not_false, Bool.and_self] at hfd ⊢
    simp only [go_sem, hob, hne, hh, hb1, hb2, hb3]
    refine W.call (want_c _ (K := K) (id := id) (c := c) ⟨Nat.lt_succ_of_lt hid, r, hr, (if_neg (Nat.ne_of_lt hid)).trans hob⟩ _ 9) ?_
    rintro v s ⟨g1, ⟨g2, r2, g3, g4⟩, g5, g6⟩
    simp only at g1 g2 g4 g5 g6
    have g7 := g6 σ.next (Nat.lt_succ_self _) (Nat.ne_of_gt hid)
    rw [show (σ.new (.cells 61 [.agg 61 [.int .i64 0, .int .i64 0, .int .i64 0, .int .i64 0, .int .i64 0]])).obj σ.next = _ from if_pos rfl] at g7
    obtain ⟨r3, hr3, hfz, _, _⟩ := g3.frz
    have g4' := g4
    simp only [encC, wst, wx, wy, wn, wtells] at g4
    simp only [go_sem, g4, hne]
    refine W.br_ok (by kernel_rfl) ?_
    simp only [go_sem, g4, hne, hfz, frz_W, hfd]
    refine W.call (want_c _ (K := K) (id := id) ⟨Nat.lt_succ_of_lt g2, r2, g3, keepN g2 g4'⟩ _ 7) ?_
    rintro v2 s2 ⟨k1, ⟨k2, r4, k3, k4⟩, k5, k6⟩
    simp only at k1 k2 k4 k5 k6
    have hss : σ.next + 1 ≤ s.next := g5
    have hs2 : s.next + 1 ≤ s2.next := k5
    have k7 : s2.obj σ.next = some (.cells 61 [.agg 61 [.int .i64 0, .int .i64 0, .int .i64 0, .int .i64 0, .int .i64 0]]) := by
      rw [k6 σ.next (show σ.next < s.next + 1 by omega) (by omega)]
      exact keepN (by omega) g7
    have k8 : s2.obj s.next = some (.cells 61 [encF (fldS K.l c.x.type c.n)]) := (k6 s.next (Nat.lt_succ_self _) (by omega)).trans (if_pos rfl)
    have hk : Keeps σ s2 id := (((Keeps.refl σ id).new _).trans ⟨g5, g6⟩).trans ⟨by omega, fun j hj hn => by
      rw [k6 j (show j < s.next + 1 by omega) hn]
      show (if j = s.next then _ else if j = s.next then _ else s.obj j) = _
      rw [if_neg (by omega), if_neg (by omega)]⟩
    simp only [encF] at k8
    have hn2 := eq_false (show ¬ σ.next = s2.next by omega)
    have hn3 := eq_false (show ¬ σ.next = s.next by omega)
    simp only [go_sem, k7, k8, hn2, hn3]
    exact fin_c hid ⟨k2, r4, k3, (if_neg (Nat.ne_of_lt hid)).trans k4⟩ (Keeps.other hk _ (Nat.le_refl _)) rfl
end Go.Proofs.Yticlihmbikcohaa.Va

/- chapter 18: what is forgotten, references -/
namespace Go.Proofs.Yticlihmbikcohaa.Va
open Go
set_option linter.unusedVariables false
set_option linter.unusedSimpArgs false
set_option maxRecDepth 100000
/-- what is of a kind, and a number, is junk -/
def fgW (k i : Int) (w : Wht) : Wht := if w.kind = k ∧ (i = 0 ∨ w.id = i) then junk else w
theorem forgetA (d : Nat) {σ : St} {v i1 i2 N : Nat} {A : List Wht} {b2 r x3 x4 x5 : AV} {k i : Int} (hv : v < σ.next) (h1 : i1 < σ.next) (h2 : i2 < σ.next) (n1 : i1 ≠ v) (n2 : i2 ≠ v) (hN : A.length = N) (hN2 : N ≤ 10)
    (ho : σ.obj v = some (.cells 43 [.agg 43 [AV.agg 39 (A.map encW), b2, r, x3, x4, x5]])) (ho1 : σ.obj i1 = some (.cells 3 [.int .i64 k])) (ho2 : σ.obj i2 = some (.cells 3 [.int .i64 i])) :
    Sat (fun p => p.1 = .tup [] ∧ p.2.obj v = some (.cells 43 [.agg 43 [AV.agg 39 ((A.map (fgW k i)).map encW), b2, r, x3, x4, x5]]) ∧ Keeps σ p.2 v) (evalF Try.prog CC (d + 1) 107 [.view 38 v [0, 0] 0 N, .ptr 3 i1 [0], .ptr 3 i2 [0]] σ) := by
  refine Sat.go ?_
  rw [run_107 _ _ _ (by simp)]; unfold Try.f107; simp only [Option.getD_some]
  simp only [go_sem, *]
  refine W.iter_rule (fun j ρ s => ρ 0 = .view 38 v [0, 0] 0 N ∧ ρ 1 = .ptr 3 i1 [0] ∧ ρ 2 = .ptr 3 i2 [0] ∧ ρ 6 = .view 38 v [0, 0] 0 N ∧ ρ 7 = .int .i64 N ∧ ρ 8 = .int .i64 j ∧ s.obj v = some (.cells 43 [.agg 43 [AV.agg 39 (((A.take j).map (fgW k i) ++ A.drop j).map encW), b2, r, x3, x4, x5]]) ∧ s.obj i1 = some (.cells 3 [.int .i64 k]) ∧ s.obj i2 = some (.cells 3 [.int .i64 i]) ∧ Keeps σ s v) N ?_ ?_ _ 0 _ _ (Nat.zero_le _) ?_ ?_
  · clear ho ho1 ho2
    rintro j ρ s hj ⟨h0, hρ1, hρ2, h6, h7, h8, ho, ho1, ho2, hk⟩ K hK hx hr
    have hlt : (j : Int) < (N : Int) := by omega
    have hle : (0 : Int) ≤ (j : Int) := by omega
    have hwrap : IntKind.i64.wrap ((j : Int) + 1) = ((j + 1 : Nat) : Int) := by rw [IntKind.wrap_i64]; omega
    have hjA : j < A.length := by omega
    have hsn : A.take (j + 1) = A.take j ++ [A[j]] := List.take_succ_eq_append_getElem hjA
    have hdn : A.drop j = A[j] :: A.drop (j + 1) := List.drop_eq_getElem_cons hjA
    have hlen : ((A.take j).map (fgW k i)).length = j := by rw [List.length_map, List.length_take]; omega
    rw [hdn] at ho
    clear hdn
    generalize A[j] = w at *
    have hgl : ((((A.take j).map (fgW k i) ++ w :: A.drop (j + 1)).map encW))[j]? = some (encW w) := by
      rw [List.getElem?_map, List.getElem?_append_right (by omega), hlen, Nat.sub_self]
      rfl
    have hst : ∀ u, (((A.take j).map (fgW k i) ++ w :: A.drop (j + 1)).map encW).set j (encW u) = (((A.take j).map (fgW k i) ++ u :: A.drop (j + 1)).map encW) := by
      intro u
      rw [List.map_append, List.map_append, List.set_append_right _ _ (by rw [List.length_map]; omega), List.length_map, hlen, Nat.sub_self]
      rfl
    have hn := hk.1
    have e1 := eq_false (show ¬ v = s.next by omega)
    have e2 := eq_false (show ¬ i1 = s.next by omega)
    have e3 := eq_false (show ¬ i2 = s.next by omega)
    have e4 := eq_false (show ¬ s.next = v by omega)
    have e5 := eq_false n1
    have e6 := eq_false n2
    have hia : aIndexAddr T 112 (.view 38 v [0, 0] 0 N) (.int .i64 (j : Nat)) = some (.ptr 38 v [0, 0, j]) := by
      simp only [aIndexAddr, ty_112]
      rw [if_pos ⟨trivial, hle, by exact_mod_cast hj⟩]
      simp
    simp only [encW] at hgl hst
    have hj0 := hst junk
    simp only [junk] at hj0
    have hfg : ∀ u, fgW k i w = u → (((A.take j).map (fgW k i) ++ u :: A.drop (j + 1)).map encW) = ((A.take (j + 1)).map (fgW k i) ++ A.drop (j + 1)).map encW := by
      rintro u rfl
      rw [hsn]
      simp
    by_cases hkd : w.kind = k
    · have hkd' := eq_true hkd
      by_cases hi0 : i = 0 ∨ w.id = i
      · have hu : fgW k i w = junk := if_pos ⟨hkd, hi0⟩
        have hq := hfg _ hu
        simp only [junk] at hq
        by_cases hi1 : i = 0
        · have hi1' := eq_true hi1
          simp only [go_sem, h0, hρ1, hρ2, h6, h7, h8, hlt, hle, ho, ho1, ho2, e1, e2, e3, e4, e5, e6, hgl, hia, hkd', hi1', hj0, hwrap, Nat.zero_add, Int.toNat_natCast]
          refine hK _ _ ?_
          refine ⟨by (try simp only [go_sem, Int.toNat_natCast, List.length_take, *]) <;> first | done | rfl | omega | (simp <;> omega), by (try simp only [go_sem, Int.toNat_natCast, List.length_take, *]) <;> first | done | rfl | omega | (simp <;> omega), by (try simp only [go_sem, Int.toNat_natCast, List.length_take, *]) <;> first | done | rfl | omega | (simp <;> omega), by (try simp only [go_sem, Int.toNat_natCast, List.length_take, *]) <;> first | done | rfl | omega | (simp <;> omega), by (try simp only [go_sem, Int.toNat_natCast, List.length_take, *]) <;> first | done | rfl | omega | (simp <;> omega), by (try simp only [go_sem, Int.toNat_natCast, List.length_take, *]) <;> first | done | rfl | omega | (simp <;> omega), ?_, by (try simp only [go_sem, Int.toNat_natCast, List.length_take, *]) <;> first | done | rfl | omega | (simp <;> omega), by (try simp only [go_sem, Int.toNat_natCast, List.length_take, *]) <;> first | done | rfl | omega | (simp <;> omega), (Keeps.other (hk.new _) _ hn).set _⟩
          simp only [go_sem, hq, e1]
        · have hi1' := eq_false hi1
          have hi2 := eq_true (hi0.resolve_left hi1)
          simp only [go_sem, h0, hρ1, hρ2, h6, h7, h8, hlt, hle, ho, ho1, ho2, e1, e2, e3, e4, e5, e6, hgl, hia, hkd', hi1', hi2, hj0, hwrap, Nat.zero_add, Int.toNat_natCast]
          refine hK _ _ ?_
          refine ⟨by (try simp only [go_sem, Int.toNat_natCast, List.length_take, *]) <;> first | done | rfl | omega | (simp <;> omega), by (try simp only [go_sem, Int.toNat_natCast, List.length_take, *]) <;> first | done | rfl | omega | (simp <;> omega), by (try simp only [go_sem, Int.toNat_natCast, List.length_take, *]) <;> first | done | rfl | omega | (simp <;> omega), by (try simp only [go_sem, Int.toNat_natCast, List.length_take, *]) <;> first | done | rfl | omega | (simp <;> omega), by (try simp only [go_sem, Int.toNat_natCast, List.length_take, *]) <;> first | done | rfl | omega | (simp <;> omega), by (try simp only [go_sem, Int.toNat_natCast, List.length_take, *]) <;> first | done | rfl | omega | (simp <;> omega), ?_, by (try simp only [go_sem, Int.toNat_natCast, List.length_take, *]) <;> first | done | rfl | omega | (simp <;> omega), by (try simp only [go_sem, Int.toNat_natCast, List.length_take, *]) <;> first | done | rfl | omega | (simp <;> omega), (Keeps.other (hk.new _) _ hn).set _⟩
          simp only [go_sem, hq, e1]
      · have hu : fgW k i w = w := if_neg (fun h => hi0 h.2)
        have hq := hfg _ hu
        have hi1' := eq_false (fun h => hi0 (.inl h) : ¬ i = 0)
        have hi2 := eq_false (fun h => hi0 (.inr h) : ¬ w.id = i)
        simp only [go_sem, h0, hρ1, hρ2, h6, h7, h8, hlt, hle, ho, ho1, ho2, e1, e2, e3, e4, e5, e6, hgl, hia, hkd', hi1', hi2, hwrap, Nat.zero_add, Int.toNat_natCast]
        refine hK _ _ ?_
        refine ⟨by (try simp only [go_sem, Int.toNat_natCast, List.length_take, *]) <;> first | done | rfl | omega | (simp <;> omega), by (try simp only [go_sem, Int.toNat_natCast, List.length_take, *]) <;> first | done | rfl | omega | (simp <;> omega), by (try simp only [go_sem, Int.toNat_natCast, List.length_take, *]) <;> first | done | rfl | omega | (simp <;> omega), by (try simp only [go_sem, Int.toNat_natCast, List.length_take, *]) <;> first | done | rfl | omega | (simp <;> omega), by (try simp only [go_sem, Int.toNat_natCast, List.length_take, *]) <;> first | done | rfl | omega | (simp <;> omega), by (try simp only [go_sem, Int.toNat_natCast, List.length_take, *]) <;> first | done | rfl | omega | (simp <;> omega), ?_, by (try simp only [go_sem, Int.toNat_natCast, List.length_take, *]) <;> first | done | rfl | omega | (simp <;> omega), by (try simp only [go_sem, Int.toNat_natCast, List.length_take, *]) <;> first | done | rfl | omega | (simp <;> omega), Keeps.other (hk.new _) _ hn⟩
        rw [← hq]
        simp only [go_sem, ho, e1]
    · have hu : fgW k i w = w := if_neg (fun h => hkd h.1)
      have hq := hfg _ hu
      have hkd' := eq_false hkd
      simp only [go_sem, h0, hρ1, hρ2, h6, h7, h8, hlt, hle, ho, ho1, ho2, e1, e2, e3, e4, e5, e6, hgl, hia, hkd', hwrap, Nat.zero_add, Int.toNat_natCast]
      refine hK _ _ ?_
      refine ⟨by (try simp only [go_sem, Int.toNat_natCast, List.length_take, *]) <;> first | done | rfl | omega | (simp <;> omega), by (try simp only [go_sem, Int.toNat_natCast, List.length_take, *]) <;> first | done | rfl | omega | (simp <;> omega), by (try simp only [go_sem, Int.toNat_natCast, List.length_take, *]) <;> first | done | rfl | omega | (simp <;> omega), by (try simp only [go_sem, Int.toNat_natCast, List.length_take, *]) <;> first | done | rfl | omega | (simp <;> omega), by (try simp only [go_sem, Int.toNat_natCast, List.length_take, *]) <;> first | done | rfl | omega | (simp <;> omega), by (try simp only [go_sem, Int.toNat_natCast, List.length_take, *]) <;> first | done | rfl | omega | (simp <;> omega), ?_, by (try simp only [go_sem, Int.toNat_natCast, List.length_take, *]) <;> first | done | rfl | omega | (simp <;> omega), by (try simp only [go_sem, Int.toNat_natCast, List.length_take, *]) <;> first | done | rfl | omega | (simp <;> omega), Keeps.other (hk.new _) _ hn⟩
      rw [← hq]
      simp only [go_sem, ho, e1]
  · rintro ρ s ⟨h0, hρ1, hρ2, h6, h7, h8, ho, ho1, ho2, hk⟩ K hx hr
    have hlt : ¬ (N : Int) < (N : Int) := by omega
    rw [← hN, List.take_length, List.drop_length, List.append_nil] at ho
    simp only [go_sem, hx, h0, hρ1, hρ2, h6, h7, h8, hlt]
    refine wp_some ⟨rfl, ?_, hk.trim⟩
    show (if v < σ.next then s.obj v else none) = _
    rw [if_pos hv, ho]
  · show N < 0 + 9223372036854775900
    omega
  · exact ⟨by (try simp only [go_sem, Int.toNat_natCast, List.length_take, *]) <;> first | done | rfl | omega | (simp <;> omega), by (try simp only [go_sem, Int.toNat_natCast, List.length_take, *]) <;> first | done | rfl | omega | (simp <;> omega), by (try simp only [go_sem, Int.toNat_natCast, List.length_take, *]) <;> first | done | rfl | omega | (simp <;> omega), by (try simp only [go_sem, Int.toNat_natCast, List.length_take, *]) <;> first | done | rfl | omega | (simp <;> omega), by (try simp only [go_sem, Int.toNat_natCast, List.length_take, *]) <;> first | done | rfl | omega | (simp <;> omega), by (try simp only [go_sem, Int.toNat_natCast, List.length_take, *]) <;> first | done | rfl | omega | (simp <;> omega), by simpa using ho, ho1, ho2, Keeps.refl σ v⟩
theorem forgetB (d : Nat) {σ : St} {v i1 i2 N : Nat} {A : List Wht} {a1 r x3 x4 x5 : AV} {k i : Int} (hv : v < σ.next) (h1 : i1 < σ.next) (h2 : i2 < σ.next) (n1 : i1 ≠ v) (n2 : i2 ≠ v) (hN : A.length = N) (hN2 : N ≤ 10)
    (ho : σ.obj v = some (.cells 43 [.agg 43 [a1, AV.agg 40 (A.map encW), r, x3, x4, x5]])) (ho1 : σ.obj i1 = some (.cells 3 [.int .i64 k])) (ho2 : σ.obj i2 = some (.cells 3 [.int .i64 i])) :
    Sat (fun p => p.1 = .tup [] ∧ p.2.obj v = some (.cells 43 [.agg 43 [a1, AV.agg 40 ((A.map (fgW k i)).map encW), r, x3, x4, x5]]) ∧ Keeps σ p.2 v) (evalF Try.prog CC (d + 1) 107 [.view 38 v [0, 1] 0 N, .ptr 3 i1 [0], .ptr 3 i2 [0]] σ) := by
  refine Sat.go ?_
  rw [run_107 _ _ _ (by simp)]; unfold Try.f107; simp only [Option.getD_some]
  simp only [go_sem, *]
  refine W.iter_rule (fun j ρ s => ρ 0 = .view 38 v [0, 1] 0 N ∧ ρ 1 = .ptr 3 i1 [0] ∧ ρ 2 = .ptr 3 i2 [0] ∧ ρ 6 = .view 38 v [0, 1] 0 N ∧ ρ 7 = .int .i64 N ∧ ρ 8 = .int .i64 j ∧ s.obj v = some (.cells 43 [.agg 43 [a1, AV.agg 40 (((A.take j).map (fgW k i) ++ A.drop j).map encW), r, x3, x4, x5]]) ∧ s.obj i1 = some (.cells 3 [.int .i64 k]) ∧ s.obj i2 = some (.cells 3 [.int .i64 i]) ∧ Keeps σ s v) N ?_ ?_ _ 0 _ _ (Nat.zero_le _) ?_ ?_
  · clear ho ho1 ho2
    rintro j ρ s hj ⟨h0, hρ1, hρ2, h6, h7, h8, ho, ho1, ho2, hk⟩ K hK hx hr
    have hlt : (j : Int) < (N : Int) := by omega
    have hle : (0 : Int) ≤ (j : Int) := by omega
    have hwrap : IntKind.i64.wrap ((j : Int) + 1) = ((j + 1 : Nat) : Int) := by rw [IntKind.wrap_i64]; omega
    have hjA : j < A.length := by omega
    have hsn : A.take (j + 1) = A.take j ++ [A[j]] := List.take_succ_eq_append_getElem hjA
    have hdn : A.drop j = A[j] :: A.drop (j + 1) := List.drop_eq_getElem_cons hjA
    have hlen : ((A.take j).map (fgW k i)).length = j := by rw [List.length_map, List.length_take]; omega
    rw [hdn] at ho
    clear hdn
    generalize A[j] = w at *
    have hgl : ((((A.take j).map (fgW k i) ++ w :: A.drop (j + 1)).map encW))[j]? = some (encW w) := by
      rw [List.getElem?_map, List.getElem?_append_right (by omega), hlen, Nat.sub_self]
      rfl
    have hst : ∀ u, (((A.take j).map (fgW k i) ++ w :: A.drop (j + 1)).map encW).set j (encW u) = (((A.take j).map (fgW k i) ++ u :: A.drop (j + 1)).map encW) := by
      intro u
      rw [List.map_append, List.map_append, List.set_append_right _ _ (by rw [List.length_map]; omega), List.length_map, hlen, Nat.sub_self]
      rfl
    have hn := hk.1
    have e1 := eq_false (show ¬ v = s.next by omega)
    have e2 := eq_false (show ¬ i1 = s.next by omega)
    have e3 := eq_false (show ¬ i2 = s.next by omega)
    have e4 := eq_false (show ¬ s.next = v by omega)
    have e5 := eq_false n1
    have e6 := eq_false n2
    have hia : aIndexAddr T 112 (.view 38 v [0, 1] 0 N) (.int .i64 (j : Nat)) = some (.ptr 38 v [0, 1, j]) := by
      simp only [aIndexAddr, ty_112]
      rw [if_pos ⟨trivial, hle, by exact_mod_cast hj⟩]
      simp
    simp only [encW] at hgl hst
    have hj0 := hst junk
    simp only [junk] at hj0
    have hfg : ∀ u, fgW k i w = u → (((A.take j).map (fgW k i) ++ u :: A.drop (j + 1)).map encW) = ((A.take (j + 1)).map (fgW k i) ++ A.drop (j + 1)).map encW := by
      rintro u rfl
      rw [hsn]
      simp
    by_cases hkd : w.kind = k
    · have hkd' := eq_true hkd
      by_cases hi0 : i = 0 ∨ w.id = i
      · have hu : fgW k i w = junk := if_pos ⟨hkd, hi0⟩
        have hq := hfg _ hu
        simp only [junk] at hq
        by_cases hi1 : i = 0
        · have hi1' := eq_true hi1
          simp only [go_sem, h0, hρ1, hρ2, h6, h7, h8, hlt, hle, ho, ho1, ho2, e1, e2, e3, e4, e5, e6, hgl, hia, hkd', hi1', hj0, hwrap, Nat.zero_add, Int.toNat_natCast]
          refine hK _ _ ?_
          refine ⟨by (try simp only [go_sem, Int.toNat_natCast, List.length_take, *]) <;> first | done | rfl | omega | (simp <;> omega), by (try simp only [go_sem, Int.toNat_natCast, List.length_take, *]) <;> first | done | rfl | omega | (simp <;> omega), by (try simp only [go_sem, Int.toNat_natCast, List.length_take, *]) <;> first | done | rfl | omega | (simp <;> omega), by (try simp only [go_sem, Int.toNat_natCast, List.length_take, *]) <;> first | done | rfl | omega | (simp <;> omega), by (try simp only [go_sem, Int.toNat_natCast, List.length_take, *]) <;> first | done | rfl | omega | (simp <;> omega), by (try simp only [go_sem, Int.toNat_natCast, List.length_take, *]) <;> first | done | rfl | omega | (simp <;> omega), ?_, by (try simp only [go_sem, Int.toNat_natCast, List.length_take, *]) <;> first | done | rfl | omega | (simp <;> omega), by (try simp only [go_sem, Int.toNat_natCast, List.length_take, *]) <;> first | done | rfl | omega | (simp <;> omega), (Keeps.other (hk.new _) _ hn).set _⟩
          simp only [go_sem, hq, e1]
        · have hi1' := eq_false hi1
          have hi2 := eq_true (hi0.resolve_left hi1)
          simp only [go_sem, h0, hρ1, hρ2, h6, h7, h8, hlt, hle, ho, ho1, ho2, e1, e2, e3, e4, e5, e6, hgl, hia, hkd', hi1', hi2, hj0, hwrap, Nat.zero_add, Int.toNat_natCast]
          refine hK _ _ ?_
          refine ⟨by (try simp only [go_sem, Int.toNat_natCast, List.length_take, *]) <;> first | done | rfl | omega | (simp <;> omega), by (try simp only [go_sem, Int.toNat_natCast, List.length_take, *]) <;> first | done | rfl | omega | (simp <;> omega), by (try simp only [go_sem, Int.toNat_natCast, List.length_take, *]) <;> first | done | rfl | omega | (simp <;> omega), by (try simp only [go_sem, Int.toNat_natCast, List.length_take, *]) <;> first | done | rfl | omega | (simp <;> omega), by (try simp only [go_sem, Int.toNat_natCast, List.length_take, *]) <;> first | done | rfl | omega | (simp <;> omega), by (try simp only [go_sem, Int.toNat_natCast, List.length_take, *]) <;> first | done | rfl | omega | (simp <;> omega), ?_, by (try simp only [go_sem, Int.toNat_natCast, List.length_take, *]) <;> first | done | rfl | omega | (simp <;> omega), by (try simp only [go_sem, Int.toNat_natCast, List.length_take, *]) <;> first | done | rfl | omega | (simp <;> omega), (Keeps.other (hk.new _) _ hn).set _⟩
          simp only [go_sem, hq, e1]
      · have hu : fgW k i w = w := if_neg (fun h => hi0 h.2)
        have hq := hfg _ hu
        have hi1' := eq_false (fun h => hi0 (.inl h) : ¬ i = 0)
        have hi2 := eq_false (fun h => hi0 (.inr h) : ¬ w.id = i)
        simp only [go_sem, h0, hρ1, hρ2, h6, h7, h8, hlt, hle, ho, ho1, ho2, e1, e2, e3, e4, e5, e6, hgl, hia, hkd', hi1', hi2, hwrap, Nat.zero_add, Int.toNat_natCast]
        refine hK _ _ ?_
        refine ⟨by (try simp only [go_sem, Int.toNat_natCast, List.length_take, *]) <;> first | done | rfl | omega | (simp <;> omega), by (try simp only [go_sem, Int.toNat_natCast, List.length_take, *]) <;> first | done | rfl | omega | (simp <;> omega), by (try simp only [go_sem, Int.toNat_natCast, List.length_take, *]) <;> first | done | rfl | omega | (simp <;> omega), by (try simp only [go_sem, Int.toNat_natCast, List.length_take, *]) <;> first | done | rfl | omega | (simp <;> omega), by (try simp only [go_sem, Int.toNat_natCast, List.length_take, *]) <;> first | done | rfl | omega | (simp <;> omega), by (try simp only [go_sem, Int.toNat_natCast, List.length_take, *]) <;> first | done | rfl | omega | (simp <;> omega), ?_, by (try simp only [go_sem, Int.toNat_natCast, List.length_take, *]) <;> first | done | rfl | omega | (simp <;> omega), by (try simp only [go_sem, Int.toNat_natCast, List.length_take, *]) <;> first | done | rfl | omega | (simp <;> omega), Keeps.other (hk.new _) _ hn⟩
        rw [← hq]
        simp only [go_sem, ho, e1]
    · have hu : fgW k i w = w := if_neg (fun h => hkd h.1)
      have hq := hfg _ hu
      have hkd' := eq_false hkd
      simp only [go_sem, h0, hρ1, hρ2, h6, h7, h8, hlt, hle, ho, ho1, ho2, e1, e2, e3, e4, e5, e6, hgl, hia, hkd', hwrap, Nat.zero_add, Int.toNat_natCast]
      refine hK _ _ ?_
      refine ⟨by (try simp only [go_sem, Int.toNat_natCast, List.length_take, *]) <;> first | done | rfl | omega | (simp <;> omega), by (try simp only [go_sem, Int.toNat_natCast, List.length_take, *]) <;> first | done | rfl | omega | (simp <;> omega), by (try simp only [go_sem, Int.toNat_natCast, List.length_take, *]) <;> first | done | rfl | omega | (simp <;> omega), by (try simp only [go_sem, Int.toNat_natCast, List.length_take, *]) <;> first | done | rfl | omega | (simp <;> omega), by (try simp only [go_sem, Int.toNat_natCast, List.length_take, *]) <;> first | done | rfl | omega | (simp <;> omega), by (try simp only [go_sem, Int.toNat_natCast, List.length_take, *]) <;> first | done | rfl | omega | (simp <;> omega), ?_, by (try simp only [go_sem, Int.toNat_natCast, List.length_take, *]) <;> first | done | rfl | omega | (simp <;> omega), by (try simp only [go_sem, Int.toNat_natCast, List.length_take, *]) <;> first | done | rfl | omega | (simp <;> omega), Keeps.other (hk.new _) _ hn⟩
      rw [← hq]
      simp only [go_sem, ho, e1]
  · rintro ρ s ⟨h0, hρ1, hρ2, h6, h7, h8, ho, ho1, ho2, hk⟩ K hx hr
    have hlt : ¬ (N : Int) < (N : Int) := by omega
    rw [← hN, List.take_length, List.drop_length, List.append_nil] at ho
    simp only [go_sem, hx, h0, hρ1, hρ2, h6, h7, h8, hlt]
    refine wp_some ⟨rfl, ?_, hk.trim⟩
    show (if v < σ.next then s.obj v else none) = _
    rw [if_pos hv, ho]
  · show N < 0 + 9223372036854775900
    omega
  · exact ⟨by (try simp only [go_sem, Int.toNat_natCast, List.length_take, *]) <;> first | done | rfl | omega | (simp <;> omega), by (try simp only [go_sem, Int.toNat_natCast, List.length_take, *]) <;> first | done | rfl | omega | (simp <;> omega), by (try simp only [go_sem, Int.toNat_natCast, List.length_take, *]) <;> first | done | rfl | omega | (simp <;> omega), by (try simp only [go_sem, Int.toNat_natCast, List.length_take, *]) <;> first | done | rfl | omega | (simp <;> omega), by (try simp only [go_sem, Int.toNat_natCast, List.length_take, *]) <;> first | done | rfl | omega | (simp <;> omega), by (try simp only [go_sem, Int.toNat_natCast, List.length_take, *]) <;> first | done | rfl | omega | (simp <;> omega), by simpa using ho, ho1, ho2, Keeps.refl σ v⟩
end Go.Proofs.Yticlihmbikcohaa.Va

/- chapter 18: Forget, references taken and given up -/
namespace Go.Proofs.Yticlihmbikcohaa.Va
open Go
set_option linter.unusedVariables false
set_option linter.unusedSimpArgs false
set_option maxRecDepth 100000
def fgS (s : Sta) (k i : Int) : Sta := { s with regs := s.regs.map (fgW k i), slots := s.slots.map (fgW k i) }
/-- a row of numbers, as an argument -/
def RefP (r : AV) (xs : List Int) : Prop := (xs = [] ∧ ∃ b, r = .mt b) ∨ ∃ b, r = .list 3 b (intsA xs) none ∧ (b = true → xs = [])
theorem RefP.refA {r : AV} {xs : List Int} (h : RefP r xs) : RefA r xs := h.imp id (fun ⟨b, h, hb⟩ => ⟨b, none, h, hb⟩)
theorem RefP.fz {r : AV} {xs : List Int} (h : RefP r xs) (σ : St) : freeze σ r = some r := by
  rcases h with ⟨_, b, rfl⟩ | ⟨b, rfl, _⟩
  · simp only [freeze]
  · simp [freeze, fullT]
theorem RefA.strip {r : AV} {xs : List Int} (h : RefA r xs) : RefP (Va.strip r) xs := by
  rcases h with ⟨rfl, b, rfl⟩ | ⟨b, tok, rfl, hb⟩
  · exact .inl ⟨rfl, b, by simp only [Va.strip]⟩
  · exact .inr ⟨b, by simp only [Va.strip], hb⟩
theorem sl_regs (id : Nat) : aSlice T 39 (.ptr 39 id [0, 0]) none none none = some (.view 38 id [0, 0] 0 10) := by
  simp [aSlice, ty_39, bound, Tab.same]
theorem sl_slots (id : Nat) : aSlice T 40 (.ptr 40 id [0, 1]) none none none = some (.view 38 id [0, 1] 0 8) := by
  simp [aSlice, ty_40, bound, Tab.same]
structure SOk (s : Sta) : Prop where
  regs : s.regs.length = 10
  slots : s.slots.length = 8
theorem Forget_c (d : Nat) (s : Sta) (r : AV) (hr : RefP r s.refs) (hs : SOk s) (k i : Int) : evalF Try.prog CC (d + 2) 97 [encS s r, .int .i64 k, .int .i64 i] St.empty = some (encS (fgS s k i) r, St.empty) := by
  refine wp_eq ?_
  rw [run_97 _ _ _ (by simp)]; unfold Try.f97; simp only [Option.getD_some]
  simp only [go_sem, sl_regs, sl_slots]
  refine W.call (forgetA _ (v := 0) (A := s.regs) (k := k) (i := i) (show 0 < 4 by decide) (show 1 < 4 by decide) (show 2 < 4 by decide) (by decide) (by decide) hs.regs (by decide) rfl rfl rfl) ?_
  rintro v1 s1 ⟨h1, h2, h3, h4⟩
  simp only at h1 h2 h3 h4
  have g1 := h4 1 (show 1 < 4 by decide) (by decide)
  have g2 := h4 2 (show 2 < 4 by decide) (by decide)
  have g3 := h4 3 (show 3 < 4 by decide) (by decide)
  have n4 : 4 ≤ s1.next := h3
  simp only [go_sem, sl_regs, sl_slots]
  refine W.call (forgetB _ (v := 0) (A := s.slots) (k := k) (i := i) (by omega) (by omega) (by omega) (by decide) (by decide) hs.slots (by decide) h2 g1 g2) ?_
  rintro v2 s2 ⟨k1, k2, k3, k4⟩
  simp only at k1 k2 k3 k4
  have g5 := (k4 3 (by omega) (by decide)).trans g3
  simp only [go_sem, k2, g5]
  have hz := fun σ => hr.fz σ
  simp only [go_sem, frz_W, hz]
  rfl
theorem roomy3 {n : Nat} (h : n ≤ 17592186044417) : roomy T 3 n = true := by
  have hb : T.bytes 3 = 8 := by kernel_rfl
  have h1 : n ≤ most := Nat.le_trans h (by decide)
  have h2 : n * 8 ≤ most := Nat.le_trans (Nat.mul_le_mul_right 8 h) (by decide)
  unfold roomy
  rw [hb]
  simp [h1, h2]
/-- a copy -/
def cloneV (r : AV) (xs : List Int) : AV := match r with | .mt true | .list _ true _ _ => .mt true | _ => .list 3 false (intsA xs) (some 1)
theorem Clone_c (d : Nat) (r : AV) (xs : List Int) (hr : RefP r xs) (hx : xs.length ≤ 17592186044416) : evalF Try.prog CC (d + 1) 81 [r] St.empty = some (cloneV r xs, valSt (cloneV r xs)) := by
  have hil : (intsA xs).length = xs.length := by simp [intsA]
  refine wp_eq ?_
  rcases hr with ⟨rfl, b, rfl⟩ | ⟨b, rfl, hb⟩
  · cases b
    · rw [run_81 _ _ _ (by simp)]; unfold Try.f81; simp only [Option.getD_some]
      simp only [go_sem, *]
      refine W.br_ok (roomy3 (by simp)) ?_
      simp only [go_sem, *]
      rfl
    · rw [run_81 _ _ _ (by simp)]; unfold Try.f81; simp only [Option.getD_some]
      simp only [go_sem, *]
      rfl
  · cases b
    · rw [run_81 _ _ _ (by simp)]; unfold Try.f81; simp only [Option.getD_some]
      simp only [go_sem, *]
      refine W.br_ok (roomy3 (by omega)) ?_
      simp only [go_sem, *]
      rfl
    · rw [run_81 _ _ _ (by simp)]; unfold Try.f81; simp only [Option.getD_some]
      simp only [go_sem, *]
      rfl
/-- a copy that is written -/
def Cp (σ : St) (xs : List Int) (v : AV) (σ' : St) : Prop := Keeps σ σ' σ.next ∧ ((xs = [] ∧ (v = .mt true ∨ ∃ tok, v = .list 3 false [] tok)) ∨ (xs ≠ [] ∧ v = .view 3 σ.next [] 0 xs.length ∧ σ.next < σ'.next ∧ σ'.obj σ.next = some (.cells 3 (intsA xs))))
theorem CloneRow_c (d : Nat) (r : AV) (xs : List Int) (hr : RefA r xs) (hx : xs.length ≤ 17592186044416) (σ : St) : Sat (fun p => Cp σ xs p.1 p.2) (evalF Try.prog CC (d + 1) 1000081 [r] σ) := by
  have hil : (intsA xs).length = xs.length := by simp [intsA]
  refine Sat.go ?_
  rcases hr with ⟨rfl, b, rfl⟩ | ⟨b, tok, rfl, hb⟩
  · cases b
    · rw [run_1000081 _ _ _ (by simp)]; unfold Try.f81; simp only [Option.getD_some]
      simp only [go_sem, *]
      refine W.br_ok (roomy3 (by decide)) ?_
      simp only [go_sem, *]
      exact wp_some ⟨(Keeps.refl _ _).tok _, .inl ⟨rfl, .inr ⟨_, rfl⟩⟩⟩
    · rw [run_1000081 _ _ _ (by simp)]; unfold Try.f81; simp only [Option.getD_some]
      simp only [go_sem, *]
      exact wp_some ⟨Keeps.refl _ _, .inl ⟨rfl, .inl rfl⟩⟩
  · cases b
    · rw [run_1000081 _ _ _ (by simp)]; unfold Try.f81; simp only [Option.getD_some]
      simp only [go_sem, *]
      refine W.br_ok (roomy3 (by omega)) ?_
      by_cases hx0 : xs = []
      · subst hx0
        have he : (intsA []).isEmpty = true := rfl
        simp only [go_sem, he]
        exact wp_some ⟨(Keeps.refl _ _).tok _, .inl ⟨rfl, .inr ⟨_, rfl⟩⟩⟩
      · have he : (intsA xs).isEmpty = false := by cases xs with | nil => exact absurd rfl hx0 | cons => rfl
        simp only [go_sem, he, hil]
        exact wp_some ⟨(Keeps.refl _ _).new _, .inr ⟨hx0, rfl, Nat.lt_succ_self _, if_pos rfl⟩⟩
    · have h0 := hb rfl
      subst h0
      rw [run_1000081 _ _ _ (by simp)]; unfold Try.f81; simp only [Option.getD_some]
      simp only [go_sem, *]
      exact wp_some ⟨Keeps.refl _ _, .inl ⟨rfl, .inl rfl⟩⟩
/-- the closure: is it the number? -/
theorem is_c (d : Nat) {σ : St} {iw : Nat} {w : Wht} (ho : σ.obj iw = some (.cells 38 [encW w])) (x : Int) :
    evalF Try.prog CC (d + 1) 106 [.int .i64 x, .ptr 38 iw [0]] σ = some (.bool (decide (x = w.id)), σ.trim σ.next) := by
  refine wp_eq ?_
  rw [run_106 _ _ _ (by simp)]; unfold Try.f106; simp only [Option.getD_some]
  simp only [go_sem, ho]
  rfl
/-- the first place of the number -/
theorem IndexFunc_c (d : Nat) {σ : St} {v iw : Nat} {w : Wht} {xs : List Int} (hv : v < σ.next) (hw : iw < σ.next) (hl : xs.length ≤ 17592186044416) (hov : σ.obj v = some (.cells 3 (intsA xs))) (ho : σ.obj iw = some (.cells 38 [encW w])) :
    Sat (fun p => Keeps σ p.2 σ.next ∧ ((p.1 = .int .i64 (-1) ∧ ∀ x ∈ xs, x ≠ w.id) ∨ ∃ i : Nat, p.1 = .int .i64 i ∧ i < xs.length ∧ (∀ x ∈ xs.take i, x ≠ w.id) ∧ xs[i]? = some w.id)) (evalF Try.prog CC (d + 2) 102 [.view 3 v [] 0 xs.length, .func 106 [.ptr 38 iw [0]]] σ) := by
  have hil : (intsA xs).length = xs.length := by simp [intsA]
  refine Sat.go ?_
  rw [run_102 _ _ _ (by simp)]; unfold Try.f102; simp only [Option.getD_some]
  simp only [go_sem, *]
  refine W.iter_rule (fun j ρ s => ρ 0 = .view 3 v [] 0 xs.length ∧ ρ 1 = .func 106 [.ptr 38 iw [0]] ∧ ρ 7 = .int .i64 xs.length ∧ ρ 8 = .int .i64 j ∧ Keeps σ s σ.next ∧ ∀ x ∈ xs.take j, x ≠ w.id) xs.length ?_ ?_ _ 0 _ _ (Nat.zero_le _) ?_ ?_
  · rintro j ρ s hj ⟨h0, h1, h7, h8, hk, hm⟩ K hK hx hr
    have hlt : (j : Int) < (xs.length : Int) := by omega
    have hwrap : IntKind.i64.wrap ((j : Int) + 1) = ((j + 1 : Nat) : Int) := by rw [IntKind.wrap_i64]; omega
    have hia : aIndexAddr T 41 (.view 3 v [] 0 xs.length) (.int .i64 (j : Nat)) = some (.ptr 3 v [j]) := by
      simp only [aIndexAddr, ty_41]
      rw [if_pos ⟨trivial, by omega, by exact_mod_cast hj⟩]
      simp
    have hov' := (hk.2 v hv (by omega)).trans hov
    have how' := (hk.2 iw hw (by omega)).trans ho
    have hget : (intsA xs)[j]? = some (.int .i64 xs[j]) := by simp [intsA, hj]
    have hsn : xs.take (j + 1) = xs.take j ++ [xs[j]] := List.take_succ_eq_append_getElem hj
    have hxj : xs[j]? = some xs[j] := List.getElem?_eq_getElem hj
    generalize xs[j] = q at hget hsn hxj
    have hcl := fun d => is_c d how' q
    simp only [go_sem, h0, h1, h7, h8, hlt, hia, hov', hget, hcl, at_nil, rowAt, AV.at]
    have hkt : Keeps σ (s.trim s.next) σ.next := ⟨hk.1, fun i hi hn => by
      show (if i < s.next then s.obj i else none) = _
      rw [if_pos (by have := hk.1; omega)]; exact hk.2 i hi hn⟩
    refine W.br_dec (fun hq => ?_) (fun hq => ?_)
    · simp only [go_sem, h0, h1, h7, h8, hr, hq]
      exact wp_some ⟨hkt.trim, .inr ⟨j, rfl, hj, hm, by rw [hxj, hq]⟩⟩
    · simp only [go_sem, h0, h1, h7, h8, hwrap]
      refine hK _ _ ?_
      refine ⟨by (try simp only [go_sem, Int.toNat_natCast, List.length_take, *]) <;> first | done | rfl | omega | (simp <;> omega), by (try simp only [go_sem, Int.toNat_natCast, List.length_take, *]) <;> first | done | rfl | omega | (simp <;> omega), by (try simp only [go_sem, Int.toNat_natCast, List.length_take, *]) <;> first | done | rfl | omega | (simp <;> omega), by (try simp only [go_sem, Int.toNat_natCast, List.length_take, *]) <;> first | done | rfl | omega | (simp <;> omega), hkt, ?_⟩
      intro x hx
      rw [hsn, List.mem_append, List.mem_singleton] at hx
      rcases hx with hx | rfl
      · exact hm x hx
      · exact hq
  · rintro ρ s ⟨h0, h1, h7, h8, hk, hm⟩ K hx hr
    have hlt : ¬ (xs.length : Int) < (xs.length : Int) := by omega
    rw [List.take_length] at hm
    simp only [go_sem, hx, h0, h1, h7, h8, hlt]
    exact wp_some ⟨hk.trim, .inl ⟨rfl, hm⟩⟩
  · show xs.length < 0 + 9223372036854775900
    omega
  · exact ⟨by (try simp only [go_sem, Int.toNat_natCast, List.length_take, *]) <;> first | done | rfl | omega | (simp <;> omega), by (try simp only [go_sem, Int.toNat_natCast, List.length_take, *]) <;> first | done | rfl | omega | (simp <;> omega), by (try simp only [go_sem, Int.toNat_natCast, List.length_take, *]) <;> first | done | rfl | omega | (simp <;> omega), by (try simp only [go_sem, Int.toNat_natCast, List.length_take, *]) <;> first | done | rfl | omega | (simp <;> omega), Keeps.refl _ _, by simp⟩
def no (i : Int) (xs : List Int) : List Int := xs.filter (fun x => !decide (x = i))
theorem no_all {i : Int} {xs : List Int} (h : ∀ x ∈ xs, x ≠ i) : no i xs = xs := by
  unfold no
  rw [List.filter_eq_self]
  intro x hx
  simp [h x hx]
theorem DeleteFunc_c (d : Nat) {σ : St} {v iw : Nat} {w : Wht} {xs : List Int} (hv : v < σ.next) (hw : iw < σ.next) (hvw : iw ≠ v) (hne : xs ≠ []) (hl : xs.length ≤ 17592186044416) (hov : σ.obj v = some (.cells 3 (intsA xs))) (ho : σ.obj iw = some (.cells 38 [encW w])) :
    Sat (fun p => Keeps σ p.2 v ∧ ∃ ys : List Int, p.1 = .view 3 v [] 0 (no w.id xs).length ∧ p.2.obj v = some (.cells 3 (intsA ys)) ∧ ys.length = xs.length ∧ ys.take (no w.id xs).length = no w.id xs) (evalF Try.prog CC (d + 3) 80 [.view 3 v [] 0 xs.length, .func 106 [.ptr 38 iw [0]]] σ) := by
  have hil : ∀ ys : List Int, (intsA ys).length = ys.length := fun ys => by simp [intsA]
  refine Sat.go ?_
  rw [run_80 _ _ _ (by simp)]; unfold Try.f80; simp only [Option.getD_some]
  simp only [go_sem, *]
  refine W.call (IndexFunc_c _ hv hw hl hov ho) ?_
  rintro v1 s1 ⟨hk1, hres⟩
  simp only at hk1 hres
  have hov1 := (hk1.2 v hv (by omega)).trans hov
  have how1 := (hk1.2 iw hw (by omega)).trans ho
  rcases hres with ⟨rfl, hno⟩ | ⟨i, rfl, hi, hpre, hit⟩
  · simp only [go_sem, hov1]
    rw [no_all hno]
    have hkv : Keeps σ (s1.trim σ.next) v := ⟨hk1.1, fun j hj hn => by
      show (if j < σ.next then s1.obj j else none) = _
      rw [if_pos hj]; exact hk1.2 j hj (by omega)⟩
    exact wp_some ⟨hkv, xs, rfl, by show (if v < σ.next then s1.obj v else none) = _; rw [if_pos hv, hov1], rfl, List.take_length⟩
  have hi1 := eq_false (show ¬ (i : Int) = -1 by omega)
  have hwi : IntKind.i64.wrap ((i : Int) + 1) = ((i + 1 : Nat) : Int) := by rw [IntKind.wrap_i64]; omega
  simp only [go_sem, hov1, hi1, hwi]
  refine W.iter_rule (fun q ρ s => ρ 0 = .view 3 v [] 0 xs.length ∧ ρ 1 = .func 106 [.ptr 38 iw [0]] ∧ ρ 6 = .int .i64 ((i + 1 + q : Nat) : Int) ∧ Keeps σ s v ∧ ∃ ys : List Int, s.obj v = some (.cells 3 (intsA ys)) ∧ ys.length = xs.length ∧ ρ 5 = .int .i64 ((no w.id (xs.take (i + 1 + q))).length : Nat) ∧ (no w.id (xs.take (i + 1 + q))).length < i + 1 + q ∧ ys.take (no w.id (xs.take (i + 1 + q))).length = no w.id (xs.take (i + 1 + q)) ∧ ys.drop (i + 1 + q) = xs.drop (i + 1 + q)) (xs.length - (i + 1)) ?_ ?_ _ 0 _ _ (Nat.zero_le _) ?_ ?_
  · rintro q ρ s hq ⟨h0, h1, h6, hk, ys, hy, hyl, h5, hlt5, htk, hdr⟩ K hK hx hr
    have hj : i + 1 + q < xs.length := by omega
    have hlt : ((i + 1 + q : Nat) : Int) < (xs.length : Int) := by omega
    have hia : ∀ k : Nat, k < xs.length → aIndexAddr T 41 (.view 3 v [] 0 xs.length) (.int .i64 (k : Nat)) = some (.ptr 3 v [k]) := by
      intro k hk
      simp only [aIndexAddr, ty_41]
      rw [if_pos ⟨trivial, by omega, by exact_mod_cast hk⟩]
      simp
    have hia1 := hia _ hj
    have hm : (no w.id (xs.take (i + 1 + q))).length < xs.length := by omega
    have hia2 := hia _ hm
    clear hia
    have how' := (hk.2 iw hw hvw).trans ho
    have hget : (intsA ys)[i + 1 + q]? = some (.int .i64 xs[i + 1 + q]) := by
      have h1 : ys[i + 1 + q]? = some xs[i + 1 + q] := by
        have := congrArg (fun l => l[0]?) hdr
        simp only [List.getElem?_drop, Nat.add_zero] at this
        rw [this, List.getElem?_eq_getElem hj]
      simp [intsA, h1]
    have hsn : xs.take (i + 1 + (q + 1)) = xs.take (i + 1 + q) ++ [xs[i + 1 + q]] := List.take_succ_eq_append_getElem hj
    have hwj : IntKind.i64.wrap (((i + 1 + q : Nat) : Int) + 1) = ((i + 1 + (q + 1) : Nat) : Int) := by rw [IntKind.wrap_i64]; omega
    have hdn : ys.drop (i + 1 + (q + 1)) = xs.drop (i + 1 + (q + 1)) := by
      have := congrArg (fun l => l.drop 1) hdr
      simpa [List.drop_drop, Nat.add_assoc] using this
    generalize xs[i + 1 + q] = u at hget hsn
    have hcl := fun d => is_c d how' u
    have hsnn := congrArg (no w.id) hsn
    unfold no at hsnn
    rw [List.filter_append] at hsnn
    have hkt : Keeps σ (s.trim s.next) v := ⟨hk.1, fun i hi hn => by
      show (if i < s.next then s.obj i else none) = _
      rw [if_pos (by have := hk.1; omega)]; exact hk.2 i hi hn⟩
    have hyt : (s.trim s.next).obj v = some (.cells 3 (intsA ys)) := by
      show (if v < s.next then s.obj v else none) = _
      rw [if_pos (by have := hk.1; omega), hy]
    simp only [go_sem, h0, h1, h6, hlt, hia1, hy, hget, hcl, at_nil, rowAt, AV.at]
    by_cases hu : u = w.id
    · have hu' := eq_true hu
      have e1 : no w.id (xs.take (i + 1 + (q + 1))) = no w.id (xs.take (i + 1 + q)) := by
        show List.filter _ _ = _
        rw [hsnn]; simp [hu, no]
      simp only [go_sem, h0, h1, h6, hu', hwj]
      refine hK _ _ ?_
      refine ⟨by (try simp only [go_sem, Int.toNat_natCast, List.length_take, *]) <;> first | done | rfl | omega | (simp <;> omega), by (try simp only [go_sem, Int.toNat_natCast, List.length_take, *]) <;> first | done | rfl | omega | (simp <;> omega), by (try simp only [go_sem, Int.toNat_natCast, List.length_take, *]) <;> first | done | rfl | omega | (simp <;> omega), hkt, ys, hyt, hyl, ?_, ?_, ?_, hdn⟩
      · rw [e1]; simp only [go_sem, h5]
      · rw [e1]; omega
      · rw [e1]; exact htk
    · have hu' := eq_false hu
      have e1 : no w.id (xs.take (i + 1 + (q + 1))) = no w.id (xs.take (i + 1 + q)) ++ [u] := by
        show List.filter _ _ = _
        rw [hsnn]; simp [hu, no]
      have e2 : IntKind.i64.wrap (((no w.id (xs.take (i + 1 + q))).length : Int) + 1) = (((no w.id (xs.take (i + 1 + q))).length + 1 : Nat) : Int) := by rw [IntKind.wrap_i64]; omega
      have hput : rowPut (intsA ys) [(no w.id (xs.take (i + 1 + q))).length] (.int .i64 u) = some (intsA (ys.set (no w.id (xs.take (i + 1 + q))).length u)) := by
        obtain ⟨z, hz⟩ : ∃ z, (intsA ys)[(no w.id (xs.take (i + 1 + q))).length]? = some (.int .i64 z) := ⟨ys[(no w.id (xs.take (i + 1 + q))).length]'(by omega), by
          simp only [intsA, List.getElem?_map]
          rw [List.getElem?_eq_getElem (by omega)]; rfl⟩
        simp only [rowPut, hz, AV.put, Option.map_some]
        simp [intsA, List.map_set]
      have hvn := eq_true (show v < s.next by have := hk.1; omega)
      simp only [go_sem, h0, h1, h5, h6, hu', hwj, hia2, hvn, hy, e2, hput]
      refine hK _ _ ?_
      refine ⟨by (try simp only [go_sem, Int.toNat_natCast, List.length_take, *]) <;> first | done | rfl | omega | (simp <;> omega), by (try simp only [go_sem, Int.toNat_natCast, List.length_take, *]) <;> first | done | rfl | omega | (simp <;> omega), by (try simp only [go_sem, Int.toNat_natCast, List.length_take, *]) <;> first | done | rfl | omega | (simp <;> omega), hkt.set _, ys.set (no w.id (xs.take (i + 1 + q))).length u, if_pos rfl, by rw [List.length_set]; exact hyl, ?_, ?_, ?_, ?_⟩
      · rw [e1, List.length_append]
        simp only [go_sem, List.length_singleton]
      · rw [e1, List.length_append, List.length_singleton]; omega
      · rw [e1, List.length_append, List.length_singleton, List.take_set, List.take_succ_eq_append_getElem (by omega), htk, List.set_append_right _ _ (Nat.le_refl _), Nat.sub_self]
        rfl
      · rw [List.drop_set_of_lt (by omega), hdn]
  · rintro ρ s ⟨h0, h1, h6, hk, ys, hy, hyl, h5, hlt5, htk, hdr⟩ K hx hr
    have hN : i + 1 + (xs.length - (i + 1)) = xs.length := by omega
    rw [hN] at h6 h5 hlt5 htk hdr
    rw [List.take_length] at h5 hlt5 htk
    have hlt : ¬ (xs.length : Int) < (xs.length : Int) := by omega
    have hs1 : aSlice T 41 (.view 3 v [] 0 xs.length) (some (.int .i64 ((no w.id xs).length : Nat))) none none = some (.view 3 v [] (no w.id xs).length (xs.length - (no w.id xs).length)) := by
      simp only [aSlice, ty_41, bound, Option.bind_some]
      rw [if_pos (by omega)]
      simp only [Option.bind_some, Int.toNat_natCast]
      rw [if_pos ⟨by omega, Nat.le_refl _, by omega, trivial⟩, Nat.zero_add]
    have hs2 : aSlice T 41 (.view 3 v [] 0 xs.length) none (some (.int .i64 ((no w.id xs).length : Nat))) none = some (.view 3 v [] 0 (no w.id xs).length) := by
      simp only [aSlice, ty_41, bound, Option.bind_some]
      rw [if_pos (by omega)]
      simp only [Option.bind_some, Int.toNat_natCast]
      rw [if_pos ⟨by omega, by omega, by omega, trivial⟩]
      rfl
    have hz : T.zero 3 = .int .i64 0 := by kernel_rfl
    have hcr : @aClearRow T ⟨s⟩ 41 3 v [] (no w.id xs).length (xs.length - (no w.id xs).length) = some (s.set v (.cells 3 (intsA (ys.take (no w.id xs).length ++ List.replicate (xs.length - (no w.id xs).length) 0)))) := by
      simp only [aClearRow, ty_41, ty_3, hz, hy]
      rw [if_pos ⟨trivial, trivial, by omega, by rw [hil]; omega⟩]
      congr 3
      simp only [intsA, List.map_append, List.map_take, List.map_replicate]
      rw [List.drop_eq_nil_of_le (by rw [List.length_map]; omega), List.append_nil]
    simp only [go_sem, hx, h0, h1, h6, h5, hlt, hs1, hs2, hcr]
    refine wp_some ⟨(hk.set _).trim, ys.take (no w.id xs).length ++ List.replicate (xs.length - (no w.id xs).length) 0, rfl, ?_, ?_, ?_⟩
    · show (if v < σ.next then (if v = v then _ else _) else none) = _
      rw [if_pos hv, if_pos rfl]
    · rw [List.length_append, List.length_take, List.length_replicate]; omega
    · rw [List.take_append_of_le_length (by rw [List.length_take]; omega), List.take_take, Nat.min_self, htk]
  · show xs.length - (i + 1) < 0 + 9223372036854775900
    omega
  · refine ⟨by (try simp only [go_sem, Int.toNat_natCast, List.length_take, *]) <;> first | done | rfl | omega | (simp <;> omega), by (try simp only [go_sem, Int.toNat_natCast, List.length_take, *]) <;> first | done | rfl | omega | (simp <;> omega), by (try simp only [go_sem, Int.toNat_natCast, List.length_take, *]) <;> first | done | rfl | omega | (simp <;> omega), ⟨hk1.1, fun j hj hn => hk1.2 j hj (by omega)⟩, xs, hov1, rfl, ?_⟩
    have e0 : no w.id (xs.take (i + 1 + 0)) = xs.take i := by
      rw [Nat.add_zero, List.take_succ_eq_append_getElem hi]
      unfold no
      rw [List.filter_append]
      have : xs[i] = w.id := by rw [List.getElem?_eq_getElem hi] at hit; exact Option.some.inj hit
      have h2 := no_all hpre
      unfold no at h2
      rw [h2]
      simp [this]
    rw [e0, List.length_take, Nat.min_eq_left (by omega)]
    exact ⟨by (try simp only [go_sem, Int.toNat_natCast, List.length_take, *]) <;> first | done | rfl | omega | (simp <;> omega), by omega, rfl, rfl⟩
end Go.Proofs.Yticlihmbikcohaa.Va

/- chapter 18: references taken and given up -/
namespace Go.Proofs.Yticlihmbikcohaa.Va
open Go
set_option linter.unusedVariables false
set_option linter.unusedSimpArgs false
set_option maxRecDepth 100000
theorem DeleteFunc_e (d : Nat) {σ : St} {iw : Nat} (sv : AV) (hsv : sv = .mt true ∨ ∃ tok, sv = .list 3 false [] tok) :
    Sat (fun p => p.1 = sv ∧ Keeps σ p.2 σ.next) (evalF Try.prog CC (d + 3) 80 [sv, .func 106 [.ptr 38 iw [0]]] σ) := by
  have hi : Sat (fun p => p.1 = .int .i64 (-1) ∧ Keeps σ p.2 σ.next) (evalF Try.prog CC (d + 2) 102 [sv, .func 106 [.ptr 38 iw [0]]] σ) := by
    refine Sat.go ?_
    rw [run_102 _ _ _ (by simp)]; unfold Try.f102; simp only [Option.getD_some]
    rcases hsv with rfl | ⟨tok, rfl⟩
    all_goals
      simp only [go_sem, *]
      refine W.iter_rule (fun j ρ s => ρ 7 = .int .i64 0 ∧ ρ 8 = .int .i64 0 ∧ s = σ) 0 ?_ ?_ _ 0 _ _ (Nat.le_refl _) ?_ ?_
      · intro j ρ s hj; omega
      · rintro ρ s ⟨h7, h8, rfl⟩ K hx hr
        simp only [go_sem, hx, h7, h8]
        exact wp_some ⟨rfl, (Keeps.refl _ _).trim⟩
      · show 0 < 0 + 9223372036854775900
        omega
      · exact ⟨by (try simp only [go_sem, Int.toNat_natCast, List.length_take, *]) <;> first | done | rfl | omega | (simp <;> omega), by (try simp only [go_sem, Int.toNat_natCast, List.length_take, *]) <;> first | done | rfl | omega | (simp <;> omega), rfl⟩
  refine Sat.go ?_
  rw [run_80 _ _ _ (by simp)]; unfold Try.f80; simp only [Option.getD_some]
  rcases hsv with rfl | ⟨tok, rfl⟩
  all_goals
    simp only [go_sem, *]
    refine W.call hi ?_
    rintro v s ⟨rfl, hk⟩
    simp only [go_sem, *]
    exact wp_some ⟨rfl, hk.trim⟩
theorem noMem_W : ∀ l : List Wht, noMemL (l.map encW) = true
  | [] => by simp only [List.map_nil, noMemL]
  | w :: l => by rw [List.map_cons]; simp only [noMemL, noMem, noMem_W l, encW, Bool.and_self]
theorem pure_W : ∀ l : List Wht, pureL (l.map encW) = true
  | [] => by simp only [List.map_nil, pureL]
  | w :: l => by rw [List.map_cons]; simp only [pureL, pure1, pure_W l, encW, Bool.and_self]
theorem RefP.pure {r : AV} {xs : List Int} (h : RefP r xs) : pure1 r = true := by
  rcases h with ⟨_, b, rfl⟩ | ⟨b, rfl, _⟩
  · simp only [pure1]
  · simp [pure1, fullT]
theorem encS_pure {s : Sta} {r : AV} (h : RefP r s.refs) : pure1 (encS s r) = true := by
  simp only [encS, pure1, pureL, pure_W, h.pure, Bool.and_self]
theorem kill_next : ∀ (ids : List Nat) (σ : St), (killAll σ ids).next = σ.next
  | [], σ => rfl
  | i :: r, σ => kill_next r (σ.kill i)
theorem kill_objs : ∀ (ids : List Nat) (σ : St) (j : Nat), j ∉ ids → (killAll σ ids).obj j = σ.obj j
  | [], σ, j, _ => rfl
  | i :: r, σ, j, h => by
    simp only [killAll]
    rw [kill_objs r (σ.kill i) j (fun h' => h (List.mem_cons_of_mem _ h'))]
    show (if j = i then none else σ.obj j) = _
    rw [if_neg (fun e => h (by rw [e]; simp))]
theorem call_state {R : Type} {P : Option R → Prop} {X : Option (AV × St)} {σ s : St} {ids l : List Nat} {t : TypeId} {us : List AV} {k : AV → St → Option R} (hc : X = some (.agg t us, s)) (hp : pure1 (.agg t us) = true) (hids : ids = l)
    (h : ∀ σ', σ'.next = σ.next → (∀ j, j ∉ l → σ'.obj j = σ.obj j) → Wp P (k (.agg t us) σ')) :
    Wp P (@bnd2 R X ⟨fun v s => @br R (noMem v) ⟨k v σ⟩ ⟨@br R false ⟨none⟩ ⟨@bnd2 R (retok s (killAll σ ids) v) ⟨k⟩⟩⟩⟩) := by
  subst hc
  subst hids
  have hr : retok s (killAll σ ids) (.agg t us) = some (.agg t us, killAll σ ids) := by
    simp only [retok, retok1, hp, if_true]
  show Wp P (@br R (noMem (.agg t us)) ⟨k (.agg t us) σ⟩ ⟨@br R false ⟨none⟩ ⟨@bnd2 R (retok s (killAll σ ids) (.agg t us)) ⟨k⟩⟩⟩)
  rw [hr]
  cases noMem (.agg t us)
  · exact h _ (kill_next ids σ) (kill_objs ids σ)
  · exact h _ rfl (fun _ _ => rfl)
theorem Keeps.congr {σ τ τ' : St} {id : Nat} (h : Keeps σ τ id) (hn : τ'.next = τ.next) (ho : ∀ j, j < σ.next → j ≠ id → τ'.obj j = τ.obj j) : Keeps σ τ' id := ⟨by rw [hn]; exact h.1, fun j hj hne => (ho j hj hne).trans (h.2 j hj hne)⟩
theorem pure_ints : ∀ xs : List Int, pureL (intsA xs) = true
  | [] => by simp only [intsA, List.map_nil, pureL]
  | x :: xs => by
    have := pure_ints xs
    simp only [intsA] at this
    simp only [intsA, List.map_cons, pureL, pure1, this, Bool.and_self]
def spendS (c : Cal) (w : Wht) : Cal := { c with st := fgS { c.st with refs := no w.id c.st.refs } 3 w.id }
def loosenS (c : Cal) : Cal := { c with st := fgS c.st 4 0 }
theorem loosen_c (d : Nat) {K : Kx} {σ : St} {id : Nat} {c : Cal} (h : At K σ id c) (hs : SOk c.st) :
    Sat (fun p => p.1 = .tup [] ∧ At K p.2 id (loosenS c) ∧ Keeps σ p.2 id) (evalF Try.prog CC (d + 3) 96 [.ptr 123 id [0]] σ) := by
  obtain ⟨hid, r, hr, hob⟩ := h
  obtain ⟨r2, hr2, hfz, hst, hvi⟩ := hr.frz
  have hrp := hr2.strip
  have hF := fun d => Forget_c d c.st (strip r2) hrp hs 4 0
  refine Sat.go ?_
  rw [run_96 _ _ _ (by simp)]; unfold Try.f96; simp only [Option.getD_some]
  simp only [go_sem, hob, frz_W, hfz, strip_W, view_W, hvi, List.append_nil]
  refine call_state (l := []) (hF _) (encS_pure hrp) (by simp [view_W, hvi, viewIdsL, viewIds]) ?_
  intro σ' hn hoj
  have hoj := fun j => hoj j (by simp)
  have ho' := (hoj id).trans hob
  simp only [go_sem, ho']
  exact fin_c hid ⟨by show id < σ'.next; rw [hn]; exact hid, strip r2, hrp.refA, if_pos rfl⟩ (Keeps.set ⟨Nat.le_of_eq hn.symm, fun j _ _ => hoj j⟩ _) rfl
def ownS (c : Cal) (t : Int) (m : Bool) : Cal := { freshS c 3 t m with st := { (freshS c 3 t m).st with refs := c.st.refs ++ [c.st.next] } }
theorem own_c (d : Nat) {K : Kx} {σ : St} {id : Nat} {c : Cal} (h : At K σ id c) (hl : c.st.refs.length ≤ 17592186044416) (t : Int) (m : Bool) :
    Sat (fun p => p.1 = .tup [] ∧ At K p.2 id (ownS c t m) ∧ Keeps σ p.2 id) (evalF Try.prog CC (d + 2) 90 [.ptr 123 id [0], .int .i64 t, .bool m] σ) := by
  have hid := h.1
  refine Sat.go ?_
  rw [run_90 _ _ _ (by simp)]; unfold Try.f90; simp only [Option.getD_some]
  simp only [go_sem, *]
  refine W.call (fresh_c _ h 3 t m) ?_
  rintro v s ⟨g1, ⟨g2, r, g3, g4⟩, g5⟩
  simp only at g1 g2 g3 g4 g5
  have hs' : ∀ (o : AObj) (q : Option Nat), Keeps σ ((s.tokNew q).set id o) id := fun o q => (g5.tok q).set o
  have hs'' : ∀ (o : AObj) (q q' : Option Nat), Keeps σ (((s.tokNew q).tokNew q').set id o) id := fun o q q' => ((g5.tok q).tok q').set o
  have hil : (intsA c.st.refs).length = c.st.refs.length := by simp [intsA]
  have hap : intsA c.st.refs ++ [AV.int .i64 c.st.next] = intsA (c.st.refs ++ [c.st.next]) := by simp [intsA]
  simp only [encC, freshS, encS] at g4
  simp only [go_sem, g4]
  refine W.br_ok (by kernel_rfl) ?_
  have hC := fun d r' hrp => Clone_c d r' c.st.refs hrp hl
  rcases g3 with ⟨hx0, b, rfl⟩ | ⟨b, tok, rfl, hb⟩
  · have hC := fun d => hC d (.mt b) (.inl ⟨hx0, b, rfl⟩)
    have hx0 : c.st.refs = [] := hx0
    cases b
    · simp only [go_sem, g4, hC, cloneV]
      refine W.br_ok (roomy3 (by rw [hil, hx0]; simp)) ?_
      simp only [go_sem, g4, hap]
      exact fin_c hid ⟨g2, _, .inr ⟨false, _, rfl, by simp⟩, if_pos rfl⟩ (hs'' _ _ _) rfl
    · simp only [go_sem, g4, hC, cloneV]
      refine W.br_ok (roomy3 (by simp)) ?_
      simp only [go_sem, g4]
      exact fin_c hid ⟨g2, _, .inr ⟨false, some (s.ntok + 1), by show AV.list 3 false [AV.int .i64 c.st.next] _ = AV.list 3 false (intsA (c.st.refs ++ [c.st.next])) _; rw [hx0]; rfl, by simp⟩, if_pos rfl⟩ (hs' _ _) rfl
  · have hC := fun d => hC d (.list 3 b (intsA c.st.refs) none) (.inr ⟨b, rfl, hb⟩)
    have hb : b = true → c.st.refs = [] := hb
    cases b
    · simp only [go_sem, g4, hC, cloneV, freshS]
      refine W.br_ok (roomy3 (by rw [hil]; simp; omega)) ?_
      simp only [go_sem, g4, hap]
      exact fin_c hid ⟨g2, _, .inr ⟨false, _, rfl, by simp⟩, if_pos rfl⟩ (hs'' _ _ _) rfl
    · have hx0 := hb rfl
      simp only [go_sem, g4, hC, cloneV, freshS]
      refine W.br_ok (roomy3 (by simp)) ?_
      simp only [go_sem, g4]
      exact fin_c hid ⟨g2, _, .inr ⟨false, some (s.ntok + 1), by show AV.list 3 false [AV.int .i64 c.st.next] _ = AV.list 3 false (intsA (c.st.refs ++ [c.st.next])) _; rw [hx0]; rfl, by simp⟩, if_pos rfl⟩ (hs' _ _) rfl
def lockT (c : Cal) : Bool := true
theorem spend_c (d : Nat) {K : Kx} {σ : St} {id : Nat} {c : Cal} (h : At K σ id c) (hs : SOk c.st) (hl : c.st.refs.length ≤ 17592186044416) (w : Wht) :
    Sat (fun p => p.1 = .tup [] ∧ At K p.2 id (spendS c w) ∧ Keeps σ p.2 id) (evalF Try.prog CC (d + 4) 92 [.ptr 123 id [0], encW w] σ) := by
  obtain ⟨hid, r, hr, hob⟩ := h
  have hne := eq_false (show ¬ id = σ.next by omega)
  refine Sat.go ?_
  rw [run_92 _ _ _ (by simp)]; unfold Try.f92; simp only [Option.getD_some]
  simp only [go_sem, hob, hne]
  refine W.call (CloneRow_c _ r c.st.refs hr hl _) ?_
  rintro v s ⟨hk, hcp⟩
  simp only at hk hcp
  have hn1 : σ.next + 1 ≤ s.next := hk.1
  have hos : s.obj id = some (.cells 123 [encC K c r]) := (hk.2 id (Nat.lt_succ_of_lt hid) (show id ≠ σ.next + 1 by omega)).trans ((if_neg (by omega)).trans hob)
  have how : s.obj σ.next = some (.cells 38 [encW w]) := (hk.2 σ.next (Nat.lt_succ_self _) (show σ.next ≠ σ.next + 1 by omega)).trans (if_pos rfl)
  rcases hcp with ⟨hx0, hv⟩ | ⟨hx0, rfl, hv2, hv3⟩
  · have hv' : v = .mt true ∨ ∃ tok, v = .list 3 false [] tok := hv
    simp only [go_sem, hos]
    refine W.call (DeleteFunc_e _ v hv') ?_
    rintro v2 s2 ⟨rfl, hk2⟩
    simp only at hk2
    have ho2 := (hk2.2 id (by omega) (by omega)).trans hos
    have how2 := (hk2.2 σ.next (by omega) (by omega)).trans how
    have hn2 : s.next ≤ s2.next := hk2.1
    have hno : no w.id c.st.refs = [] := by rw [hx0]; rfl
    have hF := fun d r' hrp => Forget_c d { c.st with refs := no w.id c.st.refs } r' hrp ⟨hs.regs, hs.slots⟩ 3 w.id
    have hne2 := eq_false (show ¬ id = s2.next by omega)
    have hne3 := eq_false (show ¬ σ.next = id by omega)
    have hkk : ∀ o, Keeps σ (s2.set id o) id := fun o => ⟨by show σ.next ≤ s2.next; omega, fun j hj hn => by
      show (if j = id then _ else s2.obj j) = _
      rw [if_neg hn, hk2.2 j (by omega) (by omega), hk.2 j (show j < σ.next + 1 by omega) (show j ≠ σ.next + 1 by omega)]
      exact if_neg (by omega)⟩
    rcases hv' with rfl | ⟨tok, rfl⟩
    · have hF := fun d => hF d (.mt true) (.inl ⟨hno, true, rfl⟩)
      simp only [go_sem, ho2, how2, hne3]
      refine W.br_ok (by kernel_rfl) ?_
      simp only [go_sem, ho2, how2, hne3, frz_W, strip_W, view_W]
      refine call_state (l := []) (hF _) (encS_pure (.inl ⟨hno, true, rfl⟩)) (by first | rfl | simp [view_W, viewIdsL, viewIds]) ?_
      intro σ' hn hoj
      have hoj := fun j => hoj j (by simp)
      have ho' := (hoj id).trans (if_pos rfl)
      simp only [go_sem, ho']
      exact fin_c hid ⟨by show id < σ'.next; rw [hn]; show id < s2.next; omega, .mt true, .inl ⟨hno, true, rfl⟩, if_pos rfl⟩ (((hkk _).congr hn (fun j _ _ => hoj j)).set _) rfl
    · have hF := fun d => hF d (.list 3 false [] none) (.inr ⟨false, by rw [hno]; rfl, by simp⟩)
      simp only [go_sem, ho2, how2, hne3]
      refine W.br_ok (by kernel_rfl) ?_
      simp only [go_sem, ho2, how2, hne3, frz_W, strip_W, view_W]
      refine call_state (l := []) (hF _) (encS_pure (.inr ⟨false, by show _ = AV.list 3 false (intsA (no w.id c.st.refs)) none; rw [hno]; rfl, by simp⟩)) (by first | rfl | simp [view_W, viewIdsL, viewIds]) ?_
      intro σ' hn hoj
      have hoj := fun j => hoj j (by simp)
      have ho' := (hoj id).trans (if_pos rfl)
      simp only [go_sem, ho']
      exact fin_c hid ⟨by show id < σ'.next; rw [hn]; show id < s2.next; omega, .list 3 false [] none, .inr ⟨false, none, by show _ = AV.list 3 false (intsA (no w.id c.st.refs)) none; rw [hno]; rfl, by simp⟩, if_pos rfl⟩ (((hkk _).congr hn (fun j _ _ => hoj j)).set _) rfl
  · simp only [go_sem, hos]
    refine W.call (DeleteFunc_c _ (v := σ.next + 1) (iw := σ.next) hv2 (by omega) (by omega) hx0 hl hv3 how) ?_
    rintro v2 s2 ⟨hk2, ys, rfl, hy1, hy2, hy3⟩
    simp only at hk2 hy1
    have ho2 := (hk2.2 id (by omega) (by omega)).trans hos
    have how2 := (hk2.2 σ.next (by omega) (by omega)).trans how
    have hn2 : s.next ≤ s2.next := hk2.1
    have hF := fun d => Forget_c d { c.st with refs := no w.id c.st.refs } (.list 3 false (intsA (no w.id c.st.refs)) none) (.inr ⟨false, rfl, by simp⟩) ⟨hs.regs, hs.slots⟩ 3 w.id
    have hne3 := eq_false (show ¬ σ.next = id by omega)
    have hkk : ∀ o, Keeps σ (s2.set id o) id := fun o => ⟨by show σ.next ≤ s2.next; omega, fun j hj hn => by
      show (if j = id then _ else s2.obj j) = _
      rw [if_neg hn, hk2.2 j (by omega) (by omega), hk.2 j (show j < σ.next + 1 by omega) (show j ≠ σ.next + 1 by omega)]
      exact if_neg (by omega)⟩
    have hfv : ∀ o, @sliceOf ⟨s2.set id o⟩ (.view 3 (σ.next + 1) [] 0 (no w.id c.st.refs).length) = some (intsA (no w.id c.st.refs)) := by
      intro o
      have hov : (s2.set id o).obj (σ.next + 1) = some (.cells 3 (intsA ys)) := (if_neg (by omega)).trans hy1
      have hle : (no w.id c.st.refs).length ≤ ys.length := by
        have := congrArg List.length hy3
        rw [List.length_take] at this
        omega
      have e1 : ((intsA ys).drop 0).take (no w.id c.st.refs).length = intsA (no w.id c.st.refs) := by
        rw [List.drop_zero]
        unfold intsA
        rw [← List.map_take, hy3]
      simp only [sliceOf, hov]
      have hil2 : (intsA ys).length = ys.length := List.length_map _
      rw [if_pos (by rw [hil2]; omega), e1]
    simp only [go_sem, ho2, how2, hne3]
    refine W.br_ok (by kernel_rfl) ?_
    simp only [go_sem, ho2, how2, hne3]
    refine W.br_ok (by kernel_rfl) ?_
    simp only [go_sem, ho2, how2, hne3, frz_W, strip_W, view_W, hfv, pure_ints]
    refine call_state (l := [σ.next + 1]) (hF _) (encS_pure (.inr ⟨false, rfl, by simp⟩)) (by first | rfl | simp [view_W, viewIdsL, viewIds]) ?_
    intro σ' hn hoj
    have hoj := fun j (hj : j ≠ σ.next + 1) => hoj j (by simpa using hj)
    have ho' := (hoj id (by omega)).trans (if_pos rfl)
    simp only [go_sem, ho']
    exact fin_c hid ⟨by show id < σ'.next; rw [hn]; show id < s2.next; omega, _, .inr ⟨false, none, rfl, by simp⟩, if_pos rfl⟩ (((hkk _).congr hn (fun j hj _ => hoj j (by omega))).set _) rfl
end Go.Proofs.Yticlihmbikcohaa.Va

/- chapter 18: objects, maps, lists -/
namespace Go.Proofs.Yticlihmbikcohaa.Va
open Go
set_option linter.unusedVariables false
set_option linter.unusedSimpArgs false
set_option maxRecDepth 100000
/-- what a call's state must be -/
structure COk (c : Cal) : Prop where
  s : SOk c.st
  refs : c.st.refs.length ≤ 17592186044415
theorem COk.want {c : Cal} (h : COk c) (b : Bool) (e : Int) : COk (wantS c b e) := ⟨by rw [wst]; exact h.1, by rw [wst]; exact h.2⟩
theorem SOk.fg {s : Sta} (h : SOk s) (k i : Int) : SOk (fgS s k i) := ⟨by simp [fgS, h.regs], by simp [fgS, h.slots]⟩
theorem COk.spend {c : Cal} (h : COk c) (w : Wht) : COk (spendS c w) := ⟨(show SOk { c.st with refs := no w.id c.st.refs } from ⟨h.1.regs, h.1.slots⟩).fg _ _, Nat.le_trans (List.length_filter_le _ _) h.2⟩
theorem COk.loosen {c : Cal} (h : COk c) : COk (loosenS c) := ⟨h.1.fg _ _, h.2⟩
theorem COk.lock {K : Kx} {c : Cal} (h : COk c) (k : Int) : COk (lockS K c k) := (h.want _ _).want _ _
theorem okS_iff {c : Cal} : okS c = true ↔ c.err = 0 := by simp [okS]
theorem lkx (K : Kx) (c : Cal) (k : Int) : (lockS K c k).x = c.x := by simp only [lockS, wx]
theorem lky (K : Kx) (c : Cal) (k : Int) : (lockS K c k).y = c.y := by simp only [lockS, wy]
theorem lkn (K : Kx) (c : Cal) (k : Int) : (lockS K c k).n = c.n := by simp only [lockS, wn]
theorem lkst (K : Kx) (c : Cal) (k : Int) : (lockS K c k).st = c.st := by simp only [lockS, wst]
theorem lktells (K : Kx) (c : Cal) (k : Int) : (lockS K c k).tells = c.tells := by simp only [lockS, wtells]
def thenS (c : Cal) (f : Cal → Cal) : Cal := if okS c = true then f c else c
def cF (K : Kx) (c : Cal) : Fld := fldS K.l c.x.type c.n
def intoS (K : Kx) (c : Cal) (k : Int) : Cal :=
  thenS (wantS (wantS (lockS K c k) (handS c.y [3]) 8) (decide (c.y.type = (cF K c).type)) 7) fun c1 => bitS (spendS c1 c.y)
theorem into_c (d : Nat) {K : Kx} {σ : St} {id : Nat} {c : Cal} (h : At K σ id c) (hc : COk c) (k : Int) :
    Sat (fun p => p.1 = .tup [] ∧ At K p.2 id (intoS K c k) ∧ Keeps σ p.2 id) (evalF Try.prog CC (d + 6) 98 [.ptr 123 id [0], .int .i64 k] σ) := by
  have hid := h.1
  have hh := fun d => hand1 d c.y 3
  simp only [encW] at hh
  refine Sat.go ?_
  rw [run_98 _ _ _ (by simp)]; unfold Try.f98; simp only [Option.getD_some]
  simp only [go_sem, *]
  refine W.call (locked_c _ h k) ?_
  rintro v s ⟨h1, hA, hk⟩
  obtain rfl : v = _ := h1
  have hA := hA
  obtain ⟨g1, r, g2, g3⟩ := hA
  have g3' := g3
  simp only [encC, lkst, lkx, lky, lkn, lktells] at g3
  have n1 := eq_false (show ¬ id = s.next from Nat.ne_of_lt g1)
  simp only [go_sem, g3, n1, hh]
  have hid2 : s.next < s.next + 1 := Nat.lt_succ_self _
  refine W.call (want_c _ (K := K) (id := id) (c := lockS K c k) ⟨Nat.lt_succ_of_lt g1, r, g2, keepN g1 g3'⟩ _ 8) ?_
  rintro v2 s2 ⟨h2, hA2, hk2⟩
  obtain rfl : v2 = _ := h2
  have hf2 : s2.obj s.next = some (.cells 61 [encF (fldS K.l c.x.type c.n)]) := (hk2.2 s.next hid2 (Nat.ne_of_gt g1)).trans (if_pos rfl)
  have hA2' := hA2
  obtain ⟨q1, r2, q2, q3⟩ := hA2
  simp only [encC, lkst, lkx, lky, lkn, lktells, wst, wx, wy, wn, wtells] at q3
  simp only [encF] at hf2
  simp only [go_sem, q3, hf2]
  refine W.br_ok (by kernel_rfl) ?_
  simp only [go_sem, q3, hf2]
  refine W.call (want_c _ hA2' _ 7) ?_
  rintro v3 s3 ⟨h3, hA3, hk3⟩
  obtain rfl : v3 = _ := h3
  have hkk : Keeps σ s3 id := (hk.trans ((Keeps.refl s id).new _ |>.other _ (Nat.le_refl _))).trans (hk2.trans hk3)
  unfold intoS cF thenS
  simp only [go_sem, *]
  refine W.br_split (fun hb => ?_) (fun hb => ?_)
  · rw [if_pos hb]
    obtain ⟨p1, r3, p2, p3⟩ := hA3
    have hA3 : At K s3 id _ := ⟨p1, r3, p2, p3⟩
    simp only [encC, lkst, lkx, lky, lkn, lktells, wst, wx, wy, wn, wtells] at p3
    simp only [go_sem, p3]
    have hc3 := ((hc.lock (K := K) k).want (handS c.y [3]) 8).want (decide (c.y.type = (fldS K.l c.x.type c.n).type)) 7
    refine W.call (spend_c _ hA3 hc3.1 (Nat.le_succ_of_le hc3.2) c.y) ?_
    rintro v4 s4 ⟨h4, hA4, hk4⟩
    obtain rfl : v4 = _ := h4
    simp only [go_sem, *]
    refine W.call (bit_c _ hA4) ?_
    rintro v5 s5 ⟨h5, hA5, hk5⟩
    obtain rfl : v5 = _ := h5
    simp only [go_sem, *]
    exact fin_c hid hA5 (hkk.trans (hk4.trans hk5)) rfl
  · rw [if_neg (by rw [hb]; simp)]
    simp only [go_sem, *]
    exact fin_c hid hA3 hkk rfl
end Go.Proofs.Yticlihmbikcohaa.Va

/- chapter 18: objects, maps, lists -/
namespace Go.Proofs.Yticlihmbikcohaa.Va
open Go
set_option linter.unusedVariables false
set_option linter.unusedSimpArgs false
set_option maxRecDepth 100000
def valueS (l : List Typ) (t : Int) : Bool := if 0 ≤ t ∧ t < l.length then (at0 l t).value else false
def refsS (l : List Typ) (t : Int) : Bool := if 0 ≤ t ∧ t < l.length then (at0 l t).refs else false
theorem typV_eq (l : List Typ) (t : Int) : ∃ nm fl, typV l t = .agg 52 [.str nm, .bool (valueS l t), .bool (refsS l t), fl] := by
  unfold typV valueS refsS
  by_cases h : 0 ≤ t ∧ t < l.length
  · rw [if_pos h, if_pos h, if_pos h]; exact ⟨_, _, rfl⟩
  · rw [if_neg h, if_neg h, if_neg h]; exact ⟨_, _, rfl⟩
def objectS (K : Kx) (c : Cal) (what : Int) : Cal :=
  if what = 1 then thenS (wantS c (okT K.l c.n && !valueS K.l c.n) 7) fun c1 => ownS c1 c1.n true
  else if what = 2 then thenS (wantS c (handS c.x [3]) 8) fun c1 => spendS c1 c1.x
  else thenS (wantS (wantS c (handS c.x [3, 4]) 8) (refsS K.l c.x.type) 7) fun c1 => ownS c1 c1.x.type false
theorem object_c (d : Nat) {K : Kx} {σ : St} {id : Nat} {c : Cal} (h : At K σ id c) (hc : COk c) (what : Int) :
    Sat (fun p => p.1 = .tup [] ∧ At K p.2 id (objectS K c what) ∧ Keeps σ p.2 id) (evalF Try.prog CC (d + 6) 58 [.ptr 123 id [0], .int .u8 what] σ) := by
  have hid := h.1
  have hh1 := fun d => hand1 d c.x 3
  have hh2 := fun d => hand2 d c.x 3 4
  simp only [encW] at hh1 hh2
  obtain ⟨g1, r, g2, g3⟩ := And.intro h.1 h.2
  simp only [encC] at g3
  unfold objectS
  refine Sat.go ?_
  rw [run_58 _ _ _ (by simp)]; unfold Try.f58; simp only [Option.getD_some]
  simp only [go_sem, g3]
  by_cases w1 : what = 1
  · subst w1
    rw [if_pos rfl]
    simp only [go_sem, g3]
    refine W.call (typ_p _ h c.n) ?_
    rintro v s ⟨h1, hA, hk⟩
    obtain rfl : v = _ := h1
    obtain ⟨nm, fl, ht⟩ := typV_eq K.l c.n
    rw [ht]
    obtain ⟨q1, r2, q2, q3⟩ := And.intro hA.1 hA.2
    have n1 := eq_false (show ¬ id = s.next from Nat.ne_of_lt q1)
    have q3' := q3
    simp only [encC] at q3
    have hkn : ∀ o o', Keeps σ ((s.new o).set s.next o') id := fun o o' => hk.trans ((Keeps.refl s id).new _ |>.other _ (Nat.le_refl _))
    obtain ⟨b1, hb1⟩ : ∃ b, okT K.l c.n = b := ⟨_, rfl⟩
    obtain ⟨b2, hb2⟩ : ∃ b, valueS K.l c.n = b := ⟨_, rfl⟩
    rw [hb1, hb2]
    cases b1 <;> cases b2
    all_goals
      try simp only [Bool.and_false, Bool.and_true, Bool.false_and, Bool.true_and, Bool.not_true, Bool.not_false, Bool.and_self]
      simp only [go_sem, n1, q3]
      refine W.call (want_c _ (K := K) (id := id) (c := c) ⟨Nat.lt_succ_of_lt q1, r2, q2, keepN q1 q3'⟩ _ 7) ?_
      rintro v2 s2 ⟨h2, hA2, hk2⟩
      obtain rfl : v2 = _ := h2
      unfold thenS
      refine W.br_split (fun hb => ?_) (fun hb => ?_)
      · rw [if_pos hb]
        obtain ⟨p1, r3, p2, p3⟩ := And.intro hA2.1 hA2.2
        simp only [encC, wst, wx, wy, wn, wtells] at p3
        simp only [go_sem, p3]
        refine W.call (own_c _ hA2 (by rw [wst]; exact Nat.le_succ_of_le hc.2) c.n true) ?_
        rintro v3 s3 ⟨h3, hA3, hk3⟩
        obtain rfl : v3 = _ := h3
        simp only [go_sem, *]
        exact fin_c hid (by rw [wn]; exact hA3) ((hkn _ _).trans (hk2.trans hk3)) rfl
      · rw [if_neg (by rw [hb]; simp)]
        simp only [go_sem, *]
        exact fin_c hid hA2 ((hkn _ _).trans hk2) rfl
  rw [if_neg w1]
  have w1' := eq_false w1
  by_cases w2 : what = 2
  · subst w2
    rw [if_pos rfl]
    simp only [go_sem, g3, w1', hh1]
    refine W.call (want_c _ h _ 8) ?_
    rintro v s ⟨h1, hA, hk⟩
    obtain rfl : v = _ := h1
    unfold thenS
    refine W.br_split (fun hb => ?_) (fun hb => ?_)
    · rw [if_pos hb]
      obtain ⟨q1, r2, q2, q3⟩ := And.intro hA.1 hA.2
      simp only [encC, wst, wx, wy, wn, wtells] at q3
      simp only [go_sem, q3]
      have hc2 := hc.want (handS c.x [3]) 8
      refine W.call (spend_c _ hA hc2.1 (Nat.le_succ_of_le hc2.2) c.x) ?_
      rintro v4 s4 ⟨h4, hA4, hk4⟩
      obtain rfl : v4 = _ := h4
      simp only [go_sem, *]
      exact fin_c hid (by rw [wx]; exact hA4) (hk.trans hk4) rfl
    · rw [if_neg (by rw [hb]; simp)]
      simp only [go_sem, *]
      exact fin_c hid hA hk rfl
  rw [if_neg w2]
  have w2' := eq_false w2
  simp only [go_sem, g3, w1', w2']
  refine W.call (typ_p _ h c.x.type) ?_
  rintro v s ⟨h1, hA, hk⟩
  obtain rfl : v = _ := h1
  obtain ⟨nm, fl, ht⟩ := typV_eq K.l c.x.type
  rw [ht]
  obtain ⟨q1, r2, q2, q3⟩ := And.intro hA.1 hA.2
  have n1 := eq_false (show ¬ id = s.next from Nat.ne_of_lt q1)
  have q3' := q3
  simp only [encC] at q3
  have hkn : ∀ o o', Keeps σ ((s.new o).set s.next o') id := fun o o' => hk.trans ((Keeps.refl s id).new _ |>.other _ (Nat.le_refl _))
  simp only [go_sem, n1, q3, hh2]
  refine W.call (want_c _ (K := K) (id := id) (c := c) ⟨Nat.lt_succ_of_lt q1, r2, q2, keepN q1 q3'⟩ _ 8) ?_
  rintro v2 s2 ⟨h2, hA2, hk2⟩
  obtain rfl : v2 = _ := h2
  have hf2 : s2.obj s.next = some (.cells 52 [.agg 52 [.str nm, .bool (valueS K.l c.x.type), .bool (refsS K.l c.x.type), fl]]) := (hk2.2 s.next (Nat.lt_succ_self _) (Nat.ne_of_gt q1)).trans (if_pos rfl)
  simp only [go_sem, hf2]
  refine W.call (want_c _ hA2 _ 7) ?_
  rintro v3 s3 ⟨h3, hA3, hk3⟩
  obtain rfl : v3 = _ := h3
  unfold thenS
  refine W.br_split (fun hb => ?_) (fun hb => ?_)
  · rw [if_pos hb]
    obtain ⟨p1, r3, p2, p3⟩ := And.intro hA3.1 hA3.2
    simp only [encC, wst, wx, wy, wn, wtells] at p3
    simp only [go_sem, p3]
    refine W.call (own_c _ hA3 (by rw [wst, wst]; exact Nat.le_succ_of_le hc.2) c.x.type false) ?_
    rintro v4 s4 ⟨h4, hA4, hk4⟩
    obtain rfl : v4 = _ := h4
    simp only [go_sem, *]
    exact fin_c hid (by rw [wx, wx]; exact hA4) ((hkn _ _).trans (hk2.trans (hk3.trans hk4))) rfl
  · rw [if_neg (by rw [hb]; simp)]
    simp only [go_sem, *]
    exact fin_c hid hA3 ((hkn _ _).trans (hk2.trans hk3)) rfl
def listS (K : Kx) (c : Cal) (what : Int) : Cal :=
  if what = 9 ∨ what = 10 then intoS K c 5
  else if what = 13 then looseS (lockS K c 5) (cF K c)
  else ownS (loosenS (lockS K c 5)) (cF K c).type true
theorem list_c (d : Nat) {K : Kx} {σ : St} {id : Nat} {c : Cal} (h : At K σ id c) (hc : COk c) (what : Int) :
    Sat (fun p => p.1 = .tup [] ∧ At K p.2 id (listS K c what) ∧ Keeps σ p.2 id) (evalF Try.prog CC (d + 7) 61 [.ptr 123 id [0], .int .u8 what] σ) := by
  have hid := h.1
  unfold listS
  refine Sat.go ?_
  rw [run_61 _ _ _ (by simp)]; unfold Try.f61; simp only [Option.getD_some]
  simp only [go_sem, *]
  by_cases w1 : what = 9
  · have w1' := eq_true w1
    rw [if_pos (.inl w1)]
    simp only [go_sem, w1']
    refine W.call (into_c _ h hc 5) ?_
    rintro v s ⟨h1, hA, hk⟩
    obtain rfl : v = _ := h1
    simp only [go_sem, *]
    exact fin_c hid hA hk rfl
  have w1' := eq_false w1
  by_cases w2 : what = 10
  · have w2' := eq_true w2
    rw [if_pos (.inr w2)]
    simp only [go_sem, w1', w2']
    refine W.call (into_c _ h hc 5) ?_
    rintro v s ⟨h1, hA, hk⟩
    obtain rfl : v = _ := h1
    simp only [go_sem, *]
    exact fin_c hid hA hk rfl
  have w2' := eq_false w2
  rw [if_neg (by rintro (h | h); exact w1 h; exact w2 h)]
  by_cases w3 : what = 13
  · have w3' := eq_true w3
    rw [if_pos w3]
    simp only [go_sem, w1', w2', w3']
    refine W.call (locked_c _ h 5) ?_
    rintro v s ⟨h1, hA, hk⟩
    obtain rfl : v = _ := h1
    simp only [go_sem, *]
    refine W.call (loose_c _ hA _) ?_
    rintro v2 s2 ⟨h2, hA2, hk2⟩
    obtain rfl : v2 = _ := h2
    simp only [go_sem, *]
    exact fin_c hid hA2 (hk.trans hk2) rfl
  have w3' := eq_false w3
  rw [if_neg w3]
  simp only [go_sem, w1', w2', w3']
  refine W.call (locked_c _ h 5) ?_
  rintro v s ⟨h1, hA, hk⟩
  obtain rfl : v = _ := h1
  have hnn := eq_false (show ¬ id = s.next from Nat.ne_of_lt hA.1)
  obtain ⟨q1, r2, q2, q3⟩ := And.intro hA.1 hA.2
  simp only [go_sem, *]
  refine W.call (loosen_c _ (K := K) (id := id) (c := lockS K c 5) ⟨Nat.lt_succ_of_lt q1, r2, q2, keepN q1 q3⟩ (by rw [lkst]; exact hc.1)) ?_
  rintro v2 s2 ⟨h2, hA2, hk2⟩
  obtain rfl : v2 = _ := h2
  have hf2 : s2.obj s.next = some (.cells 61 [encF (cF K c)]) := (hk2.2 s.next (Nat.lt_succ_self _) (Nat.ne_of_gt q1)).trans (if_pos rfl)
  simp only [encF] at hf2
  simp only [go_sem, hf2]
  refine W.call (own_c _ hA2 (by show (lockS K c 5).st.refs.length ≤ _; rw [lkst]; exact Nat.le_succ_of_le hc.2) (cF K c).type true) ?_
  rintro v3 s3 ⟨h3, hA3, hk3⟩
  obtain rfl : v3 = _ := h3
  simp only [go_sem, *]
  exact fin_c hid hA3 ((hk.trans ((Keeps.refl s id).new _ |>.other _ (Nat.le_refl _))).trans (hk2.trans hk3)) rfl
/-- what is done with maps -/
def tableS (K : Kx) (c : Cal) (what : Int) : Cal :=
  let c1 := wantS c (decide (c.n < (K.ms.length : Int))) 1
  if okS c1 = true then
    if what = 4 then thenS (wantS (wantS c1 (decide (c.x.kind = 1)) 7) c.st.sec 9) fun c2 => freshS c2 5 (at0 K.ms c.n).type true
    else bitS (wantS c1 ((at0 K.ms c.n).hash && decide (c.x.kind = 1)) 7)
  else c1
theorem table_c (d : Nat) {K : Kx} {σ : St} {id : Nat} {c : Cal} (h : At K σ id c) (hc : COk c) (hn0 : 0 ≤ c.n) (what : Int) :
    Sat (fun p => p.1 = .tup [] ∧ At K p.2 id (tableS K c what) ∧ Keeps σ p.2 id) (evalF Try.prog CC (d + 7) 59 [.ptr 123 id [0], .int .u8 what] σ) := by
  have hid := h.1
  obtain ⟨g1, r, g2, g3⟩ := And.intro h.1 h.2
  simp only [encC] at g3
  simp only [tableS]
  refine Sat.go ?_
  rw [run_59 _ _ _ (by simp)]; unfold Try.f59; simp only [Option.getD_some]
  rcases mapsV_or K with hmv | ⟨hmv, hms⟩
  case inr =>
    rw [hmv] at g3
    simp only [go_sem, *]
    refine W.br_ok (by kernel_rfl) ?_
    have hn' : decide (c.n < (0 : Int)) = false := by simp; omega
    simp only [go_sem, g3, hn']
    refine W.call (want_c _ h false 1) ?_
    rintro v s ⟨h1, hA, hk⟩
    obtain rfl : v = _ := h1
    have hb : okS (wantS c false 1) = false := by
      unfold okS wantS
      by_cases e : c.err = 0
      · rw [if_pos ⟨e, rfl⟩]; rfl
      · rw [if_neg (fun h => e h.1)]; simp [e]
    have hn2 : decide (c.n < ((0 : Nat) : Int)) = false := hn'
    try rw [hms]
    try simp only [List.length_nil]
    rw [hn2, hb, if_neg (by simp)]
    simp only [go_sem, *]
    exact fin_c hid hA hk rfl
  rw [hmv] at g3
  simp only [go_sem, *]
  refine W.br_ok (by kernel_rfl) ?_
  simp only [go_sem, g3]
  refine W.call (want_c _ h _ 1) ?_
  rintro v s ⟨h1, hA, hk⟩
  obtain rfl : v = _ := h1
  obtain ⟨q1, r2, q2, q3⟩ := And.intro hA.1 hA.2
  simp only [encC, hmv, wst, wx, wy, wn, wtells] at q3
  simp only [go_sem, *]
  obtain ⟨b, hb⟩ : ∃ b, okS (wantS c (decide (c.n < (K.ms.length : Int))) 1) = b := ⟨_, rfl⟩
  rw [hb]
  cases b
  · rw [if_neg (by simp)]
    simp only [go_sem, *]
    exact fin_c hid hA hk rfl
  rw [if_pos rfl]
  have hlt : c.n < (K.ms.length : Int) := by
    have h2 := okS_iff.1 hb
    unfold wantS at h2
    split at h2
    · cases h2
    · rename_i h3
      have : ¬ decide (c.n < (K.ms.length : Int)) = false := fun h4 => h3 ⟨h2, h4⟩
      simpa using this
  have hdt : decide (c.n < (K.ms.length : Int)) = true := by simpa using hlt
  simp only [hdt] at hA ⊢
  have hidx : idxOk c.n K.ms.length = true := by simp [idxOk]; omega
  have hget : (K.ms.map encM)[c.n.toNat]? = some (encM (at0 K.ms c.n)) := by
    rw [List.getElem?_map, at0_get hn0 hlt]; rfl
  generalize at0 K.ms c.n = m at hget ⊢
  simp only [encM] at hget
  have n1 := eq_false (show ¬ id = s.next from Nat.ne_of_lt q1)
  have hA' : ∀ o o', At K ((s.new o).set s.next o') id (wantS c true 1) := fun o o' => by
    obtain ⟨q1, r2, q2, q3⟩ := And.intro hA.1 hA.2
    exact ⟨Nat.lt_succ_of_lt q1, r2, q2, keepN q1 q3⟩
  have hkn : ∀ o o', Keeps σ ((s.new o).set s.next o') id := fun o o' => hk.trans ((Keeps.refl s id).new _ |>.other _ (Nat.le_refl _))
  simp only [go_sem, q3, hidx, hget]
  refine W.br_ok (by kernel_rfl) ?_
  simp only [go_sem, q3, hidx, hget, n1]
  by_cases w4 : what = 4
  · have w4' := eq_true w4
    rw [if_pos w4]
    simp only [go_sem, q3, n1, w4']
    refine W.call (want_c _ (hA' _ _) _ 7) ?_
    rintro v2 s2 ⟨h2, hA2, hk2⟩
    obtain rfl : v2 = _ := h2
    have hf2 : s2.obj s.next = some (.cells 71 [.agg 71 [.bool m.hash, .int .i64 m.len, .int .i64 m.type]]) := (hk2.2 s.next (Nat.lt_succ_self _) (Nat.ne_of_gt q1)).trans (if_pos rfl)
    obtain ⟨p1, r3, p2, p3⟩ := And.intro hA2.1 hA2.2
    simp only [encC, wst, wx, wy, wn, wtells] at p3
    simp only [go_sem, p3]
    refine W.call (want_c _ hA2 _ 9) ?_
    rintro v3 s3 ⟨h3, hA3, hk3⟩
    obtain rfl : v3 = _ := h3
    have hf3 : s3.obj s.next = some (.cells 71 [.agg 71 [.bool m.hash, .int .i64 m.len, .int .i64 m.type]]) := (hk3.2 s.next (Nat.lt_of_lt_of_le (Nat.lt_succ_self _) hk2.1) (Nat.ne_of_gt q1)).trans hf2
    unfold thenS
    refine W.br_split (fun hb => ?_) (fun hb => ?_)
    · rw [if_pos hb]
      simp only [go_sem, hf3]
      refine W.call (fresh_c _ hA3 5 m.type true) ?_
      rintro v4 s4 ⟨h4, hA4, hk4⟩
      obtain rfl : v4 = _ := h4
      simp only [go_sem, *]
      exact fin_c hid hA4 ((hkn _ _).trans (hk2.trans (hk3.trans hk4))) rfl
    · rw [if_neg (by rw [hb]; simp)]
      simp only [go_sem, *]
      exact fin_c hid hA3 ((hkn _ _).trans (hk2.trans hk3)) rfl
  · have w4' := eq_false w4
    rw [if_neg w4]
    obtain ⟨b1, hb1⟩ : ∃ b, m.hash = b := ⟨_, rfl⟩
    obtain ⟨b2, hb2⟩ : ∃ b, decide (c.x.kind = 1) = b := ⟨_, rfl⟩
    rw [hb1, hb2]
    cases b1 <;> cases b2
    all_goals
      try simp only [Bool.and_false, Bool.and_true, Bool.false_and, Bool.true_and, Bool.not_true, Bool.not_false, Bool.and_self]
      simp only [go_sem, q3, n1, w4', hb1, hb2]
      refine W.call (want_c _ (hA' _ _) _ 7) ?_
      rintro v2 s2 ⟨h2, hA2, hk2⟩
      obtain rfl : v2 = _ := h2
      simp only [go_sem, *]
      refine W.call (bit_c _ hA2) ?_
      rintro v3 s3 ⟨h3, hA3, hk3⟩
      obtain rfl : v3 = _ := h3
      simp only [go_sem, *]
      exact fin_c hid hA3 ((hkn _ _).trans (hk2.trans hk3)) rfl
end Go.Proofs.Yticlihmbikcohaa.Va

/- chapter 18: locks and sections, trees, pointers -/
namespace Go.Proofs.Yticlihmbikcohaa.Va
open Go
set_option linter.unusedVariables false
set_option linter.unusedSimpArgs false
set_option maxRecDepth 100000
/-- may the value be locked? -/
def lockF (l : List Typ) (t : Int) : Nat → Bool
  | 0 => false
  | n + 1 => lockF l t n || decide ((fldS l t n).kind = 7)
def setL (c : Cal) (x : Int) : Cal := { c with st := { c.st with lock := x } }
def setX (c : Cal) (b : Bool) : Cal := { c with st := { c.st with sec := b } }
def fgC (c : Cal) (k i : Int) : Cal := { c with st := fgS c.st k i }
def heldS (c : Cal) : Bool := handS c.x [5] && decide (c.st.lock = c.x.id) && !decide (c.st.lock = 0)
def regionS (K : Kx) (c : Cal) (what : Int) : Cal :=
  if what = 7 then setL (wantS (wantS (wantS c (handS c.x [5]) 8) (lockF K.l c.x.type 12) 7) (decide (c.st.lock = 0)) 9) c.x.id
  else if what = 8 then loosenS (setL (wantS c (heldS c) 9) 0)
  else if what = 21 then setX (wantS c (!c.st.sec) 9) true
  else fgC (fgC (setX (wantS c (c.st.sec && decide (c.st.lock = 0)) 9) false) 5 0) 6 0
theorem region_c (d : Nat) {K : Kx} {σ : St} {id : Nat} {c : Cal} (h : At K σ id c) (hc : COk c) (what : Int) :
    Sat (fun p => p.1 = .tup [] ∧ At K p.2 id (regionS K c what) ∧ Keeps σ p.2 id) (evalF Try.prog CC (d + 7) 60 [.ptr 123 id [0], .int .u8 what] σ) := by
  have hid := h.1
  have hh := fun d => hand1 d c.x 5
  simp only [encW] at hh
  obtain ⟨g1, r, g2, g3⟩ := And.intro h.1 h.2
  simp only [encC] at g3
  unfold regionS
  refine Sat.go ?_
  rw [run_60 _ _ _ (by simp)]; unfold Try.f60; simp only [Option.getD_some]
  simp only [go_sem, *]
  by_cases w1 : what = 7
  · subst w1
    rw [if_pos rfl]
    simp only [go_sem, g3, hh]
    refine W.call (want_c _ h _ 8) ?_
    rintro v s ⟨h1, hA, hk⟩
    obtain rfl : v = _ := h1
    obtain ⟨q1, r2, q2, q3⟩ := And.intro hA.1 hA.2
    obtain ⟨r3, hr3, hfz, _, _⟩ := q2.frz
    have q3 : s.obj id = _ := q3
    simp only [encC, wst, wx, wy, wn, wtells] at q3
    have hfd := fun d i => fld_c d K (wantS c (handS c.x [5]) 8) r3 c.x.type i
    simp only [encC, encS, encW, encF, wst, wx, wy, wn, wtells] at hfd
    simp only [go_sem, *]
    refine W.iter_rule (fun j ρ s' => ρ 0 = .ptr 123 id [0] ∧ ρ 4 = .bool (lockF K.l c.x.type j) ∧ ρ 52 = .int .i64 j ∧ s' = s) 12 ?_ ?_ _ 0 _ _ (Nat.zero_le _) ?_ ?_
    · rintro j ρ s' hj ⟨h0, h4, h52, rfl⟩ K' hK hx hr
      have hlt : (j : Int) < 12 := by omega
      have hwrap : IntKind.i64.wrap ((j : Int) + 1) = ((j + 1 : Nat) : Int) := by rw [IntKind.wrap_i64]; omega
      have hlk : lockF K.l c.x.type (j + 1) = (lockF K.l c.x.type j || decide ((fldS K.l c.x.type j).kind = 7)) := rfl
      cases hb : lockF K.l c.x.type j
      · rw [hb, Bool.false_or] at hlk
        simp only [go_sem, h0, h4, h52, hlt, hb, q3, hfz, frz_W, hfd, hwrap]
        refine hK _ _ ?_
        exact ⟨by (try simp only [go_sem, Int.toNat_natCast, List.length_take, *]) <;> first | done | rfl | omega | (simp <;> omega), by simp only [go_sem, hlk], by (try simp only [go_sem, Int.toNat_natCast, List.length_take, *]) <;> first | done | rfl | omega | (simp <;> omega), rfl⟩
      · rw [hb, Bool.true_or] at hlk
        simp only [go_sem, h0, h4, h52, hlt, hb, hwrap]
        refine hK _ _ ?_
        exact ⟨by (try simp only [go_sem, Int.toNat_natCast, List.length_take, *]) <;> first | done | rfl | omega | (simp <;> omega), by simp only [go_sem, hlk], by (try simp only [go_sem, Int.toNat_natCast, List.length_take, *]) <;> first | done | rfl | omega | (simp <;> omega), rfl⟩
    · rintro ρ s' ⟨h0, h4, h52, rfl⟩ K' hx hr
      have hlt : ¬ ((12 : Nat) : Int) < 12 := by omega
      generalize lockF K.l c.x.type 12 = lk at h4 ⊢
      simp only [go_sem, hx, h0, h4, h52, hlt]
      refine W.call (want_c _ hA _ 7) ?_
      rintro v2 s2 ⟨h2, hA2, hk2⟩
      obtain rfl : v2 = _ := h2
      obtain ⟨p1, r4, p2, p3⟩ := And.intro hA2.1 hA2.2
      have p3 : s2.obj id = _ := p3
      simp only [encC, wst, wx, wy, wn, wtells] at p3
      simp only [go_sem, p3, h0]
      refine W.call (want_c _ hA2 _ 9) ?_
      rintro v3 s3 ⟨h3, hA3, hk3⟩
      obtain rfl : v3 = _ := h3
      obtain ⟨u1, r5, u2, u3⟩ := And.intro hA3.1 hA3.2
      have u3 : s3.obj id = _ := u3
      simp only [encC, wst, wx, wy, wn, wtells] at u3
      simp only [go_sem, u3, h0]
      exact fin_c hid ⟨u1, r5, by simpa only [setL, setX, wst] using u2, (by show (if id = id then _ else _) = _; rw [if_pos rfl]; simp only [encC, encS, encW, setL, setX, fgC, wst, wx, wy, wn, wtells])⟩ ((hk.trans (hk2.trans hk3)).set _) rfl
    · show 12 < 0 + 9223372036854775900
      omega
    · exact ⟨by (try simp only [go_sem, Int.toNat_natCast, List.length_take, *]) <;> first | done | rfl | omega | (simp <;> omega), by (try simp only [go_sem, Int.toNat_natCast, List.length_take, *]) <;> first | done | rfl | omega | (simp <;> omega), by (try simp only [go_sem, Int.toNat_natCast, List.length_take, *]) <;> first | done | rfl | omega | (simp <;> omega), rfl⟩
  rw [if_neg w1]
  have w1' := eq_false w1
  by_cases w2 : what = 8
  · subst w2
    rw [if_pos rfl]
    unfold heldS
    obtain ⟨b1, hb1⟩ : ∃ b, handS c.x [5] = b := ⟨_, rfl⟩
    obtain ⟨b2, hb2⟩ : ∃ b, decide (c.st.lock = c.x.id) = b := ⟨_, rfl⟩
    obtain ⟨b3, hb3⟩ : ∃ b, decide (c.st.lock = 0) = b := ⟨_, rfl⟩
    rw [hb1, hb2, hb3]
    cases b1 <;> cases b2 <;> cases b3
    all_goals
      try simp only [Bool.and_false, Bool.and_true, Bool.false_and, Bool.true_and, Bool.not_true, Bool.not_false, Bool.and_self]
      simp only [go_sem, g3, w1']
      refine W.br_ok (by kernel_rfl) ?_
      simp only [go_sem, g3, hh, hb1, hb2, hb3]
      refine W.call (want_c _ h _ 9) ?_
      rintro v s ⟨h1, hA, hk⟩
      obtain rfl : v = _ := h1
      generalize hcc : wantS c _ 9 = cc at hA ⊢
      have e1 : cc.st = c.st := by rw [← hcc, wst]
      have e2 : cc.x = c.x := by rw [← hcc, wx]
      have e3 : cc.y = c.y := by rw [← hcc, wy]
      have e4 : cc.n = c.n := by rw [← hcc, wn]
      have e5 : cc.tells = c.tells := by rw [← hcc, wtells]
      obtain ⟨q1, r2, q2, q3⟩ := And.intro hA.1 hA.2
      have q3 : s.obj id = _ := q3
      simp only [encC, e1, e2, e3, e4, e5] at q3
      simp only [go_sem, q3]
      refine W.call (loosen_c _ (K := K) (id := id) (c := setL cc 0) ⟨q1, r2, q2, by show (if id = id then _ else _) = _; rw [if_pos rfl]; simp only [encC, encS, encW, setL, e1, e2, e3, e4, e5]⟩ ⟨by show cc.st.regs.length = 10; rw [e1]; exact hc.1.1, by show cc.st.slots.length = 8; rw [e1]; exact hc.1.2⟩) ?_
      rintro v2 s2 ⟨h2, hA2, hk2⟩
      obtain rfl : v2 = _ := h2
      simp only [go_sem, *]
      exact fin_c hid hA2 ((hk.set _).trans hk2) rfl
  rw [if_neg w2]
  have w2' := eq_false w2
  by_cases w3 : what = 21
  · subst w3
    rw [if_pos rfl]
    simp only [go_sem, g3, w1', w2']
    refine W.call (want_c _ h _ 9) ?_
    rintro v s ⟨h1, hA, hk⟩
    obtain rfl : v = _ := h1
    obtain ⟨q1, r2, q2, q3⟩ := And.intro hA.1 hA.2
    simp only [encC, wst, wx, wy, wn, wtells] at q3
    simp only [go_sem, q3]
    exact fin_c hid ⟨q1, r2, by simpa only [setL, setX, wst] using q2, (by show (if id = id then _ else _) = _; rw [if_pos rfl]; simp only [encC, encS, encW, setL, setX, fgC, wst, wx, wy, wn, wtells])⟩ (hk.set _) rfl
  rw [if_neg w3]
  have w3' := eq_false w3
  obtain ⟨b1, hb1⟩ : ∃ b, c.st.sec = b := ⟨_, rfl⟩
  obtain ⟨b2, hb2⟩ : ∃ b, decide (c.st.lock = 0) = b := ⟨_, rfl⟩
  rw [hb1, hb2]
  cases b1 <;> cases b2
  all_goals
    try simp only [Bool.and_false, Bool.and_true, Bool.false_and, Bool.true_and, Bool.not_true, Bool.not_false, Bool.and_self]
    simp only [go_sem, g3, w1', w2', w3', hb1, hb2]
    refine W.call (want_c _ h _ 9) ?_
    rintro v s ⟨h1, hA, hk⟩
    obtain rfl : v = _ := h1
    obtain ⟨q1, r2, q2, q3⟩ := And.intro hA.1 hA.2
    simp only [encC, wst, wx, wy, wn, wtells] at q3
    obtain ⟨r3, hr3, hfz, hst, hvi⟩ := q2.frz
    have hrp : RefP (strip r3) c.st.refs := by have := hr3.strip; simpa only [wst] using this
    have hstp : strip (strip r3) = strip r3 := by
      rcases hrp with ⟨_, b, h⟩ | ⟨b, h, _⟩ <;> rw [h] <;> simp only [strip]
    have hfp := fun σ => hrp.fz σ
    have hF1 := fun d => Forget_c d { c.st with sec := false } (strip r3) hrp ⟨hc.1.1, hc.1.2⟩ 5 0
    have hF2 := fun d => Forget_c d (fgS { c.st with sec := false } 5 0) (strip r3) hrp ⟨by simp [fgS, hc.1.1], by simp [fgS, hc.1.2]⟩ 6 0
    simp only [go_sem, q3, frz_W, hfz, strip_W, view_W, hvi, List.append_nil]
    refine call_state (l := []) (hF1 _) (encS_pure hrp) (by first | rfl | simp [view_W, hvi, viewIdsL, viewIds]) ?_
    intro σ' hn hoj
    have hoj := fun j => hoj j (by simp)
    have ho' := (hoj id).trans (if_pos rfl)
    have hvi2 : viewIds (strip r3) = [] := by
      rcases hrp with ⟨_, b, h⟩ | ⟨b, h, _⟩ <;> rw [h] <;> simp only [viewIds]
    simp only [go_sem, ho', frz_W, hfp, strip_W, hstp, view_W, hvi2, List.append_nil]
    refine call_state (l := []) (hF2 _) (encS_pure hrp) (by first | rfl | simp [view_W, hvi2, viewIdsL, viewIds]) ?_
    intro σ2 hn2 hoj2
    have hoj2 := fun j => hoj2 j (by simp)
    have ho2 := (hoj2 id).trans (if_pos rfl)
    have hn' : σ'.next = s.next := hn
    have hn2' : σ2.next = s.next := hn2.trans hn'
    simp only [go_sem, ho2]
    have hk1 : Keeps σ σ' id := (hk.set _).congr hn' (fun j _ _ => hoj j)
    have hk2 : Keeps σ σ2 id := (hk1.set _).congr (hn2'.trans hn'.symm) (fun j _ _ => hoj2 j)
    exact fin_c hid ⟨by show id < σ2.next; rw [hn2']; exact q1, strip r3, by simpa only [fgC, setX, fgS, wst] using hrp.refA, by show (if id = id then _ else _) = _; rw [if_pos rfl]; simp only [encC, encS, encW, setL, setX, fgC, fgS, wst, wx, wy, wn, wtells]⟩ (hk2.set _) rfl
end Go.Proofs.Yticlihmbikcohaa.Va

/- chapter 18: trees, pointers -/
namespace Go.Proofs.Yticlihmbikcohaa.Va
open Go
set_option linter.unusedVariables false
set_option linter.unusedSimpArgs false
set_option maxRecDepth 100000
def lkC (c : Cal) : Int := IntKind.i64.wrap (IntKind.i64.wrap (16 * c.x.type) + c.n)
def lnF (K : Kx) (c : Cal) : Fld := fldS K.l (IntKind.i64.wrap (c.x.link.tdiv 16)) (c.x.link.tmod 16)
def mbC (c : Cal) : Cal := { c with tells := { c.x with maybe := true } }
def treeS (K : Kx) (c : Cal) (what : Int) : Cal :=
  if what = 14 then intoS K c 6
  else if what = 15 then looseS (lockS K c 6) (cF K c)
  else if what = 18 then thenS (wantS (lockS K c 6) (handS c.y [4] && decide (c.y.id = c.x.id) && decide (c.y.link = lkC c)) 8) fun c1 => ownS (loosenS c1) (cF K c).type false
  else mbC (wantS (wantS (wantS c (handS c.x [4]) 8) (decide ((lnF K c).kind = 6)) 7) (decide (c.n = (lnF K c).link)) 1)
theorem tree_c (d : Nat) {K : Kx} {σ : St} {id : Nat} {c : Cal} (h : At K σ id c) (hc : COk c) (what : Int) :
    Sat (fun p => p.1 = .tup [] ∧ At K p.2 id (treeS K c what) ∧ Keeps σ p.2 id) (evalF Try.prog CC (d + 7) 62 [.ptr 123 id [0], .int .u8 what] σ) := by
  have hid := h.1
  have hhy := fun d => hand1 d c.y 4
  have hhx := fun d => hand1 d c.x 4
  simp only [encW] at hhy hhx
  obtain ⟨g1, r, g2, g3⟩ := And.intro h.1 h.2
  simp only [encC] at g3
  unfold treeS
  refine Sat.go ?_
  rw [run_62 _ _ _ (by simp)]; unfold Try.f62; simp only [Option.getD_some]
  simp only [go_sem, *]
  by_cases w1 : what = 14
  · subst w1
    rw [if_pos rfl]
    simp only [go_sem, *]
    refine W.call (into_c _ h hc 6) ?_
    rintro v s ⟨h1, hA, hk⟩
    obtain rfl : v = _ := h1
    simp only [go_sem, *]
    exact fin_c hid hA hk rfl
  rw [if_neg w1]
  have w1' := eq_false w1
  by_cases w2 : what = 15
  · subst w2
    rw [if_pos rfl]
    simp only [go_sem, *]
    refine W.call (locked_c _ h 6) ?_
    rintro v s ⟨h1, hA, hk⟩
    obtain rfl : v = _ := h1
    simp only [go_sem, *]
    refine W.call (loose_c _ hA _) ?_
    rintro v2 s2 ⟨h2, hA2, hk2⟩
    obtain rfl : v2 = _ := h2
    simp only [go_sem, *]
    exact fin_c hid hA2 (hk.trans hk2) rfl
  rw [if_neg w2]
  have w2' := eq_false w2
  by_cases w3 : what = 18
  · subst w3
    rw [if_pos rfl]
    simp only [go_sem, w1', w2']
    refine W.call (locked_c _ h 6) ?_
    rintro v s ⟨h1, hA, hk⟩
    obtain rfl : v = _ := h1
    obtain ⟨q1, r2, q2, q3⟩ := And.intro hA.1 hA.2
    have hA1 : ∀ o o', At K ((s.new o).set s.next o') id (lockS K c 6) := fun o o' => ⟨Nat.lt_succ_of_lt q1, r2, q2, keepN q1 q3⟩
    have q3 : s.obj id = _ := q3
    simp only [encC, lkst, lkx, lky, lkn, lktells] at q3
    have n1 := eq_false (show ¬ id = s.next from Nat.ne_of_lt q1)
    have hkn : ∀ o o', Keeps σ ((s.new o).set s.next o') id := fun o o' => hk.trans ((Keeps.refl s id).new _ |>.other _ (Nat.le_refl _))
    obtain ⟨b1, hb1⟩ : ∃ b, handS c.y [4] = b := ⟨_, rfl⟩
    obtain ⟨b2, hb2⟩ : ∃ b, decide (c.y.id = c.x.id) = b := ⟨_, rfl⟩
    obtain ⟨b3, hb3⟩ : ∃ b, decide (c.y.link = lkC c) = b := ⟨_, rfl⟩
    rw [hb1, hb2, hb3]
    unfold lkC at hb3
    cases b1 <;> cases b2 <;> cases b3
    all_goals
      try simp only [Bool.and_false, Bool.and_true, Bool.false_and, Bool.true_and, Bool.not_true, Bool.not_false, Bool.and_self]
      simp only [go_sem, q3, n1]
      refine W.br_ok (by kernel_rfl) ?_
      simp only [go_sem, q3, n1, hhy, hb1, hb2, hb3]
      refine W.call (want_c _ (hA1 _ _) _ 8) ?_
      rintro v2 s2 ⟨h2, hA2, hk2⟩
      obtain rfl : v2 = _ := h2
      unfold thenS
      simp only [go_sem, *]
      refine W.br_split (fun hb => ?_) (fun hb => ?_)
      · rw [if_pos hb]
        have hf2 : s2.obj s.next = some (.cells 61 [encF (cF K c)]) := (hk2.2 s.next (Nat.lt_succ_self _) (Nat.ne_of_gt q1)).trans (if_pos rfl)
        simp only [go_sem, *]
        refine W.call (loosen_c _ hA2 ⟨by rw [wst, lkst]; exact hc.1.1, by rw [wst, lkst]; exact hc.1.2⟩) ?_
        rintro v3 s3 ⟨h3, hA3, hk3⟩
        obtain rfl : v3 = _ := h3
        have hf3 : s3.obj s.next = some (.cells 61 [encF (cF K c)]) := (hk3.2 s.next (Nat.lt_of_lt_of_le (Nat.lt_succ_self _) hk2.1) (Nat.ne_of_gt q1)).trans hf2
        simp only [encF] at hf3
        simp only [go_sem, hf3]
        refine W.call (own_c _ hA3 (by show (wantS _ _ _).st.refs.length ≤ _; rw [wst, lkst]; exact Nat.le_succ_of_le hc.2) (cF K c).type false) ?_
        rintro v4 s4 ⟨h4, hA4, hk4⟩
        obtain rfl : v4 = _ := h4
        simp only [go_sem, *]
        exact fin_c hid hA4 ((hkn _ _).trans (hk2.trans (hk3.trans hk4))) rfl
      · rw [if_neg (by rw [hb]; simp)]
        simp only [go_sem, *]
        exact fin_c hid hA2 ((hkn _ _).trans hk2) rfl
  rw [if_neg w3]
  have w3' := eq_false w3
  have e16 : IntKind.i64.wrap (c.x.link.tdiv 16) = IntKind.i64.wrap (c.x.link.tdiv 16) := rfl
  simp only [go_sem, w1', w2', w3', g3, hhx]
  refine W.call (want_c _ h _ 8) ?_
  rintro v s ⟨h1, hA, hk⟩
  obtain rfl : v = _ := h1
  obtain ⟨q1, r2, q2, q3⟩ := And.intro hA.1 hA.2
  have hA1 : ∀ o o', At K ((s.new o).set s.next o') id (wantS c (handS c.x [4]) 8) := fun o o' => ⟨Nat.lt_succ_of_lt q1, r2, q2, keepN q1 q3⟩
  have q3 : s.obj id = _ := q3
  obtain ⟨r3, hr3, hfz, _, _⟩ := q2.frz
  simp only [encC, wst, wx, wy, wn, wtells] at q3
  have hfd := fun d i t => fld_c d K (wantS c (handS c.x [4]) 8) r3 t i
  simp only [encC, encS, encW, encF, wst, wx, wy, wn, wtells] at hfd
  have n1 := eq_false (show ¬ id = s.next from Nat.ne_of_lt q1)
  have hkn : ∀ o o', Keeps σ ((s.new o).set s.next o') id := fun o o' => hk.trans ((Keeps.refl s id).new _ |>.other _ (Nat.le_refl _))
  simp only [go_sem, q3]
  refine W.br_ok (by kernel_rfl) ?_
  simp only [go_sem, q3, n1, hfz, frz_W, hfd]
  refine W.call (want_c _ (hA1 _ _) _ 7) ?_
  rintro v2 s2 ⟨h2, hA2, hk2⟩
  obtain rfl : v2 = _ := h2
  have hf2 : s2.obj s.next = some (.cells 61 [encF (lnF K c)]) := (hk2.2 s.next (Nat.lt_succ_self _) (Nat.ne_of_gt q1)).trans (if_pos rfl)
  obtain ⟨p1, r4, p2, p3⟩ := And.intro hA2.1 hA2.2
  have p3 : s2.obj id = _ := p3
  simp only [encC, wst, wx, wy, wn, wtells] at p3
  simp only [encF] at hf2
  simp only [go_sem, p3, hf2]
  refine W.br_ok (by kernel_rfl) ?_
  simp only [go_sem, p3, hf2]
  refine W.call (want_c _ hA2 _ 1) ?_
  rintro v3 s3 ⟨h3, hA3, hk3⟩
  obtain rfl : v3 = _ := h3
  obtain ⟨u1, r5, u2, u3⟩ := And.intro hA3.1 hA3.2
  have u3 : s3.obj id = _ := u3
  simp only [encC, wst, wx, wy, wn, wtells] at u3
  simp only [go_sem, u3]
  exact fin_c hid ⟨u1, r5, by simpa only [mbC, wst] using u2, by show (if id = id then _ else _) = _; rw [if_pos rfl]; simp only [encC, encS, encW, mbC, lnF, wst, wx, wy, wn, wtells]; rfl⟩ (((hkn _ _).trans (hk2.trans hk3)).set _ |>.set _) rfl
def seenC (K : Kx) (c : Cal) : Cal := { c with tells := ⟨6, (cF K c).type, 0, 0, true, 0, 0⟩ }
def ownY (c : Cal) : Bool := handS c.y [3]
def fitY (c : Cal) : Bool := (ownY c || decide (c.y.kind = 2)) && !(ownY c && decide (c.x.kind = 3) && decide (c.x.id = c.y.id))
def pointerS (K : Kx) (c : Cal) (what : Int) : Cal :=
  if what = 20 then seenC K (wantS (wantS (wantS c c.st.sec 9) (handS c.x [5, 3, 6]) 8) (decide ((cF K c).kind = 2)) 7)
  else thenS (wantS (wantS (wantS (wantS c (handS c.x [5, 3]) 8) (decide ((cF K c).kind = 2)) 7) (fitY c) 8) (!ownY c || decide (c.y.type = (cF K c).type)) 7) fun c1 => ownS (if ownY c = true then spendS c1 c.y else c1) (cF K c).type true
set_option maxHeartbeats 8000000 in
theorem pointer_c (d : Nat) {K : Kx} {σ : St} {id : Nat} {c : Cal} (h : At K σ id c) (hc : COk c) (what : Int) :
    Sat (fun p => p.1 = .tup [] ∧ At K p.2 id (pointerS K c what) ∧ Keeps σ p.2 id) (evalF Try.prog CC (d + 7) 63 [.ptr 123 id [0], .int .u8 what] σ) := by
  have hid := h.1
  have hhx3 := fun d => hand3 d c.x 5 3 6
  have hhx2 := fun d => hand2 d c.x 5 3
  have hhy := fun d => hand1 d c.y 3
  simp only [encW] at hhy hhx3 hhx2
  obtain ⟨g1, r, g2, g3⟩ := And.intro h.1 h.2
  have hA1 : ∀ o o', At K ((σ.new o).set σ.next o') id c := fun o o' => ⟨Nat.lt_succ_of_lt g1, r, g2, keepN g1 g3⟩
  obtain ⟨r3, hr3, hfz, _, _⟩ := g2.frz
  simp only [encC] at g3
  have hfd := fun d i t => fld_c d K c r3 t i
  simp only [encC, encS, encW, encF] at hfd
  have n1 := eq_false (show ¬ id = σ.next from Nat.ne_of_lt g1)
  have hkn : ∀ o o', Keeps σ ((σ.new o).set σ.next o') id := fun o o' => (Keeps.refl σ id).new _ |>.other _ (Nat.le_refl _)
  unfold pointerS
  refine Sat.go ?_
  rw [run_63 _ _ _ (by simp)]; unfold Try.f63; simp only [Option.getD_some]
  simp only [go_sem, g3]
  refine W.br_ok (by kernel_rfl) ?_
  simp only [go_sem, g3, n1, hfz, frz_W, hfd]
  by_cases w1 : what = 20
  · have w1' := eq_true w1
    rw [if_pos w1]
    simp only [go_sem, g3, n1, w1']
    refine W.call (want_c _ (hA1 _ _) _ 9) ?_
    rintro v s ⟨h1, hA, hk⟩
    obtain rfl : v = _ := h1
    have hf : s.obj σ.next = some (.cells 61 [encF (cF K c)]) := (hk.2 σ.next (Nat.lt_succ_self _) (Nat.ne_of_gt g1)).trans (if_pos rfl)
    obtain ⟨q1, r2, q2, q3⟩ := And.intro hA.1 hA.2
    have q3 : s.obj id = _ := q3
    simp only [encC, wst, wx, wy, wn, wtells] at q3
    simp only [go_sem, q3, hhx3]
    refine W.call (want_c _ hA _ 8) ?_
    rintro v2 s2 ⟨h2, hA2, hk2⟩
    obtain rfl : v2 = _ := h2
    have hf2 : s2.obj σ.next = some (.cells 61 [encF (cF K c)]) := (hk2.2 σ.next (Nat.lt_of_lt_of_le (Nat.lt_succ_self _) hk.1) (Nat.ne_of_gt g1)).trans hf
    have hf2' := hf2
    simp only [encF] at hf2
    simp only [go_sem, hf2]
    refine W.call (want_c _ hA2 _ 7) ?_
    rintro v3 s3 ⟨h3, hA3, hk3⟩
    obtain rfl : v3 = _ := h3
    have hf3 : s3.obj σ.next = some (.cells 61 [encF (cF K c)]) := (hk3.2 σ.next (Nat.lt_of_lt_of_le (Nat.lt_succ_self _) (Nat.le_trans hk.1 hk2.1)) (Nat.ne_of_gt g1)).trans hf2'
    obtain ⟨u1, r5, u2, u3⟩ := And.intro hA3.1 hA3.2
    have u3 : s3.obj id = _ := u3
    simp only [encC, wst, wx, wy, wn, wtells] at u3
    simp only [encF] at hf3
    simp only [go_sem, u3, hf3]
    exact fin_c hid ⟨u1, r5, by simpa only [seenC, wst] using u2, by show (if id = id then _ else _) = _; rw [if_pos rfl]; simp only [encC, encS, encW, seenC, cF, wst, wx, wy, wn, wtells]⟩ (((hkn _ _).trans (hk.trans (hk2.trans hk3))).set _) rfl
  have w1' := eq_false w1
  rw [if_neg w1]
  simp only [go_sem, g3, n1, w1', hhx2]
  refine W.call (want_c _ (hA1 _ _) _ 8) ?_
  rintro v s ⟨h1, hA, hk⟩
  obtain rfl : v = _ := h1
  have hf : s.obj σ.next = some (.cells 61 [encF (cF K c)]) := (hk.2 σ.next (Nat.lt_succ_self _) (Nat.ne_of_gt g1)).trans (if_pos rfl)
  have hf' := hf
  simp only [encF] at hf
  simp only [go_sem, hf]
  refine W.call (want_c _ hA _ 7) ?_
  rintro v2 s2 ⟨h2, hA2, hk2⟩
  obtain rfl : v2 = _ := h2
  have hf2 : s2.obj σ.next = some (.cells 61 [encF (cF K c)]) := (hk2.2 σ.next (Nat.lt_of_lt_of_le (Nat.lt_succ_self _) hk.1) (Nat.ne_of_gt g1)).trans hf'
  obtain ⟨q1, r2, q2, q3⟩ := And.intro hA2.1 hA2.2
  have q3 : s2.obj id = _ := q3
  simp only [encC, wst, wx, wy, wn, wtells] at q3
  simp only [go_sem, q3, hhy]
  refine W.br_ok (by kernel_rfl) ?_
  obtain ⟨b1, hb1⟩ : ∃ b, ownY c = b := ⟨_, rfl⟩
  obtain ⟨b2, hb2⟩ : ∃ b, decide (c.y.kind = 2) = b := ⟨_, rfl⟩
  obtain ⟨b3, hb3⟩ : ∃ b, decide (c.x.kind = 3) = b := ⟨_, rfl⟩
  obtain ⟨b4, hb4⟩ : ∃ b, decide (c.x.id = c.y.id) = b := ⟨_, rfl⟩
  unfold fitY
  rw [hb1, hb2, hb3, hb4]
  have hb1 : handS c.y [3] = b1 := hb1
  cases b1
  · cases b2
    all_goals
      try simp only [Bool.and_false, Bool.and_true, Bool.false_and, Bool.true_and, Bool.not_true, Bool.not_false, Bool.and_self, Bool.or_true, Bool.true_or, Bool.false_or, Bool.or_false, Bool.or_self, Bool.false_eq_true, if_false, if_true]
      simp only [go_sem, q3, hb1, hb2]
      refine W.call (want_c _ hA2 _ 8) ?_
      rintro v3 s3 ⟨h3, hA3, hk3⟩
      obtain rfl : v3 = _ := h3
      have hf3 : s3.obj σ.next = some (.cells 61 [encF (cF K c)]) := (hk3.2 σ.next (Nat.lt_of_lt_of_le (Nat.lt_succ_self _) (Nat.le_trans hk.1 hk2.1)) (Nat.ne_of_gt g1)).trans hf2
      obtain ⟨u1, r5, u2, u3⟩ := And.intro hA3.1 hA3.2
      have u3 : s3.obj id = _ := u3
      simp only [encC, wst, wx, wy, wn, wtells] at u3
      have hf3' := hf3
      simp only [encF] at hf3
      simp only [go_sem, u3, hf3]
      refine W.br_ok (by kernel_rfl) ?_
      simp only [go_sem, u3, hf3, hb1]
      refine W.call (want_c _ hA3 _ 7) ?_
      rintro v4 s4 ⟨h4, hA4, hk4⟩
      obtain rfl : v4 = _ := h4
      have hf4 : s4.obj σ.next = some (.cells 61 [encF (cF K c)]) := (hk4.2 σ.next (Nat.lt_of_lt_of_le (Nat.lt_succ_self _) (Nat.le_trans hk.1 (Nat.le_trans hk2.1 hk3.1))) (Nat.ne_of_gt g1)).trans hf3'
      unfold thenS
      simp only [go_sem, *]
      have hkk : Keeps σ s4 id := (hkn _ _).trans (hk.trans (hk2.trans (hk3.trans hk4)))
      refine W.br_split (fun hb => ?_) (fun hb => ?_)
      · rw [if_pos hb]
        have hf4' := hf4
        simp only [encF] at hf4
        simp only [go_sem, hf4]
        refine W.call (own_c _ hA4 (by simp only [wst]; exact Nat.le_succ_of_le hc.2) (cF K c).type true) ?_
        rintro v5 s5 ⟨h5, hA5, hk5⟩
        obtain rfl : v5 = _ := h5
        simp only [go_sem, *]
        exact fin_c hid hA5 (hkk.trans hk5) rfl
      · rw [if_neg (by rw [hb]; simp)]
        simp only [go_sem, *]
        exact fin_c hid hA4 hkk rfl
  · cases b3 <;> cases b4
    all_goals
      try simp only [Bool.and_false, Bool.and_true, Bool.false_and, Bool.true_and, Bool.not_true, Bool.not_false, Bool.and_self, Bool.or_true, Bool.true_or, Bool.false_or, Bool.or_false, Bool.or_self, Bool.false_eq_true, if_false, if_true]
      simp only [go_sem, q3, hb1, hb3, hb4]
      refine W.call (want_c _ hA2 _ 8) ?_
      rintro v3 s3 ⟨h3, hA3, hk3⟩
      obtain rfl : v3 = _ := h3
      have hf3 : s3.obj σ.next = some (.cells 61 [encF (cF K c)]) := (hk3.2 σ.next (Nat.lt_of_lt_of_le (Nat.lt_succ_self _) (Nat.le_trans hk.1 hk2.1)) (Nat.ne_of_gt g1)).trans hf2
      obtain ⟨u1, r5, u2, u3⟩ := And.intro hA3.1 hA3.2
      have u3 : s3.obj id = _ := u3
      simp only [encC, wst, wx, wy, wn, wtells] at u3
      have hf3' := hf3
      simp only [encF] at hf3
      simp only [go_sem, u3, hf3]
      refine W.br_ok (by kernel_rfl) ?_
      simp only [go_sem, u3, hf3, hb1]
      refine W.call (want_c _ hA3 _ 7) ?_
      rintro v4 s4 ⟨h4, hA4, hk4⟩
      obtain rfl : v4 = _ := h4
      have hf4 : s4.obj σ.next = some (.cells 61 [encF (cF K c)]) := (hk4.2 σ.next (Nat.lt_of_lt_of_le (Nat.lt_succ_self _) (Nat.le_trans hk.1 (Nat.le_trans hk2.1 hk3.1))) (Nat.ne_of_gt g1)).trans hf3'
      unfold thenS
      simp only [go_sem, *]
      have hkk : Keeps σ s4 id := (hkn _ _).trans (hk.trans (hk2.trans (hk3.trans hk4)))
      refine W.br_split (fun hb => ?_) (fun hb => ?_)
      · rw [if_pos hb]
        obtain ⟨y1, r6, y2, y3⟩ := And.intro hA4.1 hA4.2
        have y3 : s4.obj id = _ := y3
        simp only [encC, wst, wx, wy, wn, wtells] at y3
        simp only [go_sem, y3]
        refine W.call (spend_c _ hA4 ⟨by simp only [wst]; exact hc.1.1, by simp only [wst]; exact hc.1.2⟩ (by simp only [wst]; exact Nat.le_succ_of_le hc.2) c.y) ?_
        rintro v5 s5 ⟨h5, hA5, hk5⟩
        obtain rfl : v5 = _ := h5
        have hf5 : s5.obj σ.next = some (.cells 61 [encF (cF K c)]) := (hk5.2 σ.next (Nat.lt_of_lt_of_le (Nat.lt_succ_self _) (Nat.le_trans hk.1 (Nat.le_trans hk2.1 (Nat.le_trans hk3.1 hk4.1)))) (Nat.ne_of_gt g1)).trans hf4
        simp only [encF] at hf5
        simp only [go_sem, hf5]
        refine W.call (own_c _ hA5 (by
          refine Nat.le_trans (List.length_filter_le _ _) ?_
          simp only [wst]; exact Nat.le_succ_of_le hc.2) (cF K c).type true) ?_
        rintro v6 s6 ⟨h6, hA6, hk6⟩
        obtain rfl : v6 = _ := h6
        simp only [go_sem, *]
        exact fin_c hid hA6 (hkk.trans (hk5.trans hk6)) rfl
      · rw [if_neg (by rw [hb]; simp)]
        simp only [go_sem, *]
        exact fin_c hid hA4 hkk rfl
end Go.Proofs.Yticlihmbikcohaa.Va

/- chapter 18: Call -/
namespace Go.Proofs.Yticlihmbikcohaa.Va
open Go
set_option linter.unusedVariables false
set_option linter.unusedSimpArgs false
set_option maxRecDepth 100000
def zeroW : Wht := ⟨1, 0, 0, 0, false, 0, 0⟩
def begC (s : Sta) (n : Int) : Cal := ⟨s, at0 s.regs 1, at0 s.regs 2, n, zeroW, 0⟩
def doneS (K : Kx) (s : Sta) (what n : Int) : Cal :=
  if what = 1 ∨ what = 2 ∨ what = 3 then objectS K (begC s n) what
  else if what = 4 ∨ what = 5 ∨ what = 6 then tableS K (begC s n) what
  else if what = 7 ∨ what = 8 ∨ what = 21 ∨ what = 22 then regionS K (begC s n) what
  else if what = 9 ∨ what = 10 ∨ what = 11 ∨ what = 12 ∨ what = 13 then listS K (begC s n) what
  else if what = 14 ∨ what = 15 ∨ what = 16 ∨ what = 17 ∨ what = 18 then treeS K (begC s n) what
  else if what = 19 ∨ what = 20 then pointerS K (begC s n) what
  else { begC s n with err := 1 }
def clr (k : Nat) (l : List Wht) : List Wht := l.take 1 ++ (List.replicate k junk ++ l.drop (k + 1))
def endS (c : Cal) : Sta := { c.st with regs := c.tells :: (List.replicate 5 junk ++ c.st.regs.drop 6) }
def noS : Sta := ⟨List.replicate 10 junk, List.replicate 8 junk, [], 0, false, 0⟩
def callS (K : Kx) (s : Sta) (what n : Int) : Sta × Int := if (doneS K s what n).err = 0 then (endS (doneS K s what n), 0) else (noS, (doneS K s what n).err)
theorem Of_c (d : Nat) : evalF Try.prog CC (d + 1) 38 [.int .u64 0] St.empty = some (.agg 36 [.int .u64 0, .int .u64 0], St.empty) := by
  show evalF Try.prog CC (d + 1) 38 [.int .u64 0] St.empty = _
  kernel_rfl
theorem ix_reg (id : Nat) (p : List Nat) (i : Nat) (h : i < 10) : aIndexAddr T 39 (.ptr 39 id p) (.int .i64 (i : Int)) = some (.ptr 38 id (p ++ [i])) := by
  simp only [aIndexAddr, ty_39]
  rw [if_pos ⟨by simp [Tab.same], by omega, by omega⟩]
  rw [Int.toNat_natCast]
theorem clr_set (k : Nat) {l : List Wht} (h : k + 1 < l.length) : (clr k l).set (k + 1) junk = clr (k + 1) l := by
  have h1 : (l.take 1).length = 1 := by rw [List.length_take]; omega
  unfold clr
  rw [List.set_append_right _ _ (by omega), h1, Nat.add_sub_cancel, List.set_append_right _ _ (by simp), List.length_replicate, Nat.sub_self, List.drop_eq_getElem_cons (by omega), List.set_cons_zero, List.replicate_succ', List.append_assoc]
  rfl
theorem clr_len (k : Nat) {l : List Wht} (h : k + 1 ≤ l.length) : (clr k l).length = l.length := by
  unfold clr
  simp only [List.length_append, List.length_take, List.length_replicate, List.length_drop]
  omega
theorem clr0 (l : List Wht) : clr 0 l = l := by cases l <;> simp [clr]
theorem set_ne (σ : St) {i j : Nat} (o : AObj) (h : j ≠ i) : (σ.set i o).obj j = σ.obj j := if_neg h
theorem set_obj (σ : St) (i : Nat) (o : AObj) : (σ.set i o).obj i = some o := if_pos rfl
theorem clr5 {l : List Wht} (h : l.length = 10) (w : Wht) : (clr 5 l).set 0 w = w :: (List.replicate 5 junk ++ l.drop 6) := by
  match l, h with
  | a :: l, _ => rfl
theorem frz_pure {r r' : AV} {xs : List Int} (h : RefA r xs) (hf : ∀ σ, freeze σ r = some r') : pure1 r' = true := by
  have hf := hf St.empty
  rcases h with ⟨_, b, rfl⟩ | ⟨b, tok, rfl, _⟩
  · simp only [freeze, Option.some.injEq] at hf; subst hf; simp only [pure1]
  · simp only [freeze, Option.some.injEq] at hf; subst hf
    simp only [pure1]
    split
    · assumption
    · rfl
theorem want_ok {c : Cal} (h : SOk c.st) (b : Bool) (e : Int) : SOk (wantS c b e).st := by rw [wst]; exact h
theorem lock_ok {K : Kx} {c : Cal} (h : SOk c.st) (k : Int) : SOk (lockS K c k).st := by rw [lkst]; exact h
theorem then_ok {c : Cal} {f : Cal → Cal} (h : SOk c.st) (hf : ∀ c, SOk c.st → SOk (f c).st) : SOk (thenS c f).st := by
  unfold thenS
  split
  · exact hf c h
  · exact h
theorem own_ok {c : Cal} (h : SOk c.st) (t : Int) (m : Bool) : SOk (ownS c t m).st := ⟨h.1, h.2⟩
theorem spend_ok {c : Cal} (h : SOk c.st) (w : Wht) : SOk (spendS c w).st := (show SOk { c.st with refs := no w.id c.st.refs } from ⟨h.1, h.2⟩).fg _ _
theorem loosen_ok {c : Cal} (h : SOk c.st) : SOk (loosenS c).st := h.fg _ _
theorem into_ok {K : Kx} {c : Cal} (h : SOk c.st) (k : Int) : SOk (intoS K c k).st := then_ok (want_ok (want_ok (lock_ok h k) _ _) _ _) fun c hc => spend_ok hc _
theorem done_ok (K : Kx) {s : Sta} (h : SOk s) (what n : Int) : SOk (doneS K s what n).st := by
  have hb : SOk (begC s n).st := h
  unfold doneS
  generalize begC s n = c at hb ⊢
  split
  · unfold objectS
    split
    · exact then_ok (want_ok hb _ _) fun c hc => own_ok hc _ _
    split
    · exact then_ok (want_ok hb _ _) fun c hc => spend_ok hc _
    · exact then_ok (want_ok (want_ok hb _ _) _ _) fun c hc => own_ok hc _ _
  split
  · unfold tableS
    simp only
    split
    · split
      · exact then_ok (want_ok (want_ok (want_ok hb _ _) _ _) _ _) fun c hc => ⟨hc.1, hc.2⟩
      · exact want_ok (want_ok hb _ _) _ _
    · exact want_ok hb _ _
  split
  · unfold regionS
    split
    · have := want_ok (want_ok (want_ok hb (handS c.x [5]) 8) (lockF K.l c.x.type 12) 7) (decide (c.st.lock = 0)) 9
      exact ⟨this.1, this.2⟩
    split
    · have := want_ok hb (heldS c) 9
      exact (show SOk (setL (wantS c (heldS c) 9) 0).st from ⟨this.1, this.2⟩).fg _ _
    split
    · have := want_ok hb (!c.st.sec) 9
      exact ⟨this.1, this.2⟩
    · have := want_ok hb (c.st.sec && decide (c.st.lock = 0)) 9
      exact ((show SOk (setX (wantS c (c.st.sec && decide (c.st.lock = 0)) 9) false).st from ⟨this.1, this.2⟩).fg _ _).fg _ _
  split
  · unfold listS
    split
    · exact into_ok hb _
    split
    · exact lock_ok hb _
    · exact own_ok (loosen_ok (lock_ok hb _)) _ _
  split
  · unfold treeS
    split
    · exact into_ok hb _
    split
    · exact lock_ok hb _
    split
    · exact then_ok (want_ok (lock_ok hb _) _ _) fun c hc => own_ok (loosen_ok hc) _ _
    · exact want_ok (want_ok (want_ok hb _ _) _ _) _ _
  split
  · unfold pointerS
    split
    · exact want_ok (want_ok (want_ok hb _ _) _ _) _ _
    · exact then_ok (want_ok (want_ok (want_ok (want_ok hb _ _) _ _) _ _) _ _) fun c hc => own_ok (by split; exact spend_ok hc _; exact hc) _ _
  · exact hb
set_option maxHeartbeats 8000000 in
theorem call_tail (d : Nat) (K : Kx) (c1 : Cal) (r2 : AV) (q2 : RefA r2 c1.st.refs) (hok : SOk c1.st) (ρ : Env) (s2 : St) (h10 : ρ 10 = .ptr 43 1 [0]) (h12 : ρ 12 = .ptr 123 2 [0]) (q3 : s2.obj 2 = some (.cells 123 [encC K c1 r2])) (o1 : s2.obj 1 = some (.cells 43 [.agg 43 [.agg 39 ((List.replicate 10 junk).map encW), .agg 40 ((List.replicate 8 junk).map encW), .mt true, .int .i64 0, .bool false, .int .i64 0]])) {X : Sta × Int} (hX : (if c1.err = 0 then (endS c1, 0) else (noS, c1.err)) = X) :
    Wp (fun x => ∃ r', RefA r' X.1.refs ∧ pure1 r' = true ∧ x = some ((AV.tup [encS X.1 r', AV.int .i64 X.2], St.empty) : AV × St)) (evalCode CC (evalF Try.prog CC d) 43 (tl 3 (Try.f43.body.getD .skip)) ρ s2 (retK CC 43 Try.f43 St.empty)) := by
  subst hX
  obtain ⟨ρ0, rfl⟩ : ∃ ρ0, ρ = upd (upd ρ0 10 (.ptr 43 1 [0])) 12 (.ptr 123 2 [0]) := ⟨ρ, by
    funext i
    by_cases h1 : i = 12
    · subst h1; simp [upd, h12]
    · by_cases h2 : i = 10
      · subst h2; simp [upd, h10]
      · simp [upd, h1, h2]⟩
  clear h10 h12
  have q3' := q3
  simp only [encC] at q3
  unfold Try.f43
  simp only [Option.getD_some, tl]
  by_cases he : c1.err = 0
  · rw [if_pos he]
    simp only [go_sem, q3, he]
    obtain ⟨r3, hr3, hfz, hst, hvi⟩ := q2.frz
    refine W.iter_rule (fun j ρ s' => ρ 10 = .ptr 43 1 [0] ∧ ρ 12 = .ptr 123 2 [0] ∧ ρ 13 = .int .i64 ((j + 1 : Nat) : Int) ∧ s'.obj 2 = some (.cells 123 [encC K { c1 with st := { c1.st with regs := clr j c1.st.regs } } r2]) ∧ s'.obj 1 = s2.obj 1) 5 ?_ ?_ _ 0 _ _ (Nat.zero_le _) ?_ ?_
    · rintro j ρ s' hj ⟨h10, h12, h13, h2, h1⟩ K' hK hx hr
      have hlt : ((j + 1 : Nat) : Int) ≤ 5 := by omega
      have hwrap : IntKind.i64.wrap (((j + 1 : Nat) : Int) + 1) = ((j + 1 + 1 : Nat) : Int) := by rw [IntKind.wrap_i64]; omega
      have hix := ix_reg 2 [0, 2, 0] (j + 1) (by omega)
      simp only [List.cons_append, List.nil_append] at hix
      have hgl : ((clr j c1.st.regs).map encW)[j + 1]? = some (encW ((clr j c1.st.regs)[j + 1]'(by rw [clr_len j (by rw [hok.1]; omega), hok.1]; omega))) := by
        rw [List.getElem?_map, List.getElem?_eq_getElem]; rfl
      have hsl : ((clr j c1.st.regs).map encW).set (j + 1) (encW junk) = (clr (j + 1) c1.st.regs).map encW := by
        rw [← clr_set j (by rw [hok.1]; omega), List.map_set]
      simp only [encC] at h2
      simp only [encW, junk] at hgl hsl
      have hn12 : ¬ (1 : Nat) = 2 := by decide
      simp only [go_sem, h10, h12, h13, hlt, h2, hix, hgl, hsl, hwrap]
      skip
      refine hK _ _ ?_
      exact ⟨by (try simp only [go_sem, Int.toNat_natCast, List.length_take, *]) <;> first | done | rfl | omega | (simp <;> omega), by (try simp only [go_sem, Int.toNat_natCast, List.length_take, *]) <;> first | done | rfl | omega | (simp <;> omega), by (try simp only [go_sem, Int.toNat_natCast, List.length_take, *]) <;> first | done | rfl | omega | (simp <;> omega), by rw [set_obj]; rfl, (set_ne _ _ hn12).trans h1⟩
    · rintro ρ s' ⟨h10, h12, h13, h2, h1⟩ K' hx hr
      have hlt : ¬ ((5 + 1 : Nat) : Int) ≤ 5 := by omega
      have hix := ix_reg 2 [0, 2, 0] 0 (by decide)
      simp only [List.cons_append, List.nil_append] at hix
      rw [show ((0 : Nat) : Int) = 0 from rfl] at hix
      have hgl : ((clr 5 c1.st.regs).map encW)[0]? = some (encW ((clr 5 c1.st.regs)[0]'(by rw [clr_len 5 (by rw [hok.1]; omega), hok.1]; omega))) := by
        rw [List.getElem?_map, List.getElem?_eq_getElem]; rfl
      have hsl : ((clr 5 c1.st.regs).map encW).set 0 (encW c1.tells) = (endS c1).regs.map encW := by
        show _ = (c1.tells :: (List.replicate 5 junk ++ c1.st.regs.drop 6)).map encW
        rw [← clr5 hok.1, List.map_set]
      simp only [encC] at h2
      rw [o1] at h1
      simp only [encW, junk, List.replicate] at hgl hsl h1
      simp only [go_sem, hx, h10, h12, h13, hlt]
      refine W.br_ok (by kernel_rfl) ?_
      simp only [go_sem, h10, h12, h2, h1, hix, hgl, hsl]
      simp only [go_sem, frz_W, hfz]
      exact ⟨r3, hr3, frz_pure q2 hfz, rfl⟩

    · show 5 < 0 + 9223372036854775900
      omega
    · exact ⟨by (try simp only [go_sem, Int.toNat_natCast, List.length_take, *]) <;> first | done | rfl | omega | (simp <;> omega), by (try simp only [go_sem, Int.toNat_natCast, List.length_take, *]) <;> first | done | rfl | omega | (simp <;> omega), by (try simp only [go_sem, Int.toNat_natCast, List.length_take, *]) <;> first | done | rfl | omega | (simp <;> omega), by rw [clr0]; exact q3', rfl⟩
  · rw [if_neg he]
    simp only [encW, junk, List.replicate] at o1
    simp only [go_sem, q3, he]
    refine W.br_no (by kernel_rfl) ?_
    refine W.br_ok (by kernel_rfl) ?_
    simp only [go_sem, q3, he, o1]
    refine W.br_ok (by kernel_rfl) ?_
    simp only [go_sem, q3, he, o1]
    exact ⟨.mt true, .inl ⟨rfl, true, rfl⟩, by simp only [pure1], rfl⟩

set_option maxHeartbeats 40000000 in
theorem Call_c (d : Nat) (K : Kx) (s : Sta) (r : AV) (hr : RefP r s.refs) (hs : SOk s) (hl : s.refs.length ≤ 17592186044415) (what n : Int) (hn0 : 0 ≤ n) (hn1 : n < 4294967296) :
    ∃ r', RefA r' (callS K s what n).1.refs ∧ pure1 r' = true ∧ evalF Try.prog CC (d + 9) 43 [.list 52 K.bl (K.l.map encTy) none, mapsV K, encS s r, .int .u8 what, .int .u32 n] St.empty = some (.tup [encS (callS K s what n).1 r', .int .i64 (callS K s what n).2], St.empty) := by
  have hof := fun d => Of_c d
  have hcv : IntKind.i64.wrap n = n := by rw [IntKind.wrap_i64]; omega
  have hi1 := ix_reg 0 [0, 0] 1 (by decide)
  have hi2 := ix_reg 0 [0, 0] 2 (by decide)
  have hg1 : (s.regs.map encW)[1]? = some (encW (at0 s.regs 1)) := by
    rw [List.getElem?_map, show (1 : Nat) = (1 : Int).toNat from rfl, at0_get (by decide) (by rw [hs.regs]; decide)]; rfl
  have hg2 : (s.regs.map encW)[2]? = some (encW (at0 s.regs 2)) := by
    rw [List.getElem?_map, show (2 : Nat) = (2 : Int).toNat from rfl, at0_get (by decide) (by rw [hs.regs]; decide)]; rfl
  simp only [encW] at hg1 hg2
  rw [show ((1 : Nat) : Int) = 1 from rfl] at hi1
  rw [show ((2 : Nat) : Int) = 2 from rfl] at hi2
  refine (show Wp (fun x => ∃ r', RefA r' (callS K s what n).1.refs ∧ pure1 r' = true ∧ x = some ((AV.tup [encS (callS K s what n).1 r', AV.int .i64 (callS K s what n).2], St.empty) : AV × St)) _ from ?_)
  rw [run_43 _ _ _ (by simp), cut 3]
  generalize ht : tl 3 (Try.f43.body.getD .skip) = t
  unfold Try.f43
  simp only [Option.getD_some, spl]
  simp only [go_sem, *]
  refine W.br_ok (by kernel_rfl) ?_
  simp only [go_sem, hof, hcv, hi1, hi2, hg1, hg2]
  by_cases w1 : what = 1
  · subst w1
    obtain ⟨c1, hX⟩ : ∃ c1, doneS K s 1 n = c1 := ⟨_, rfl⟩
    have hd : doneS K s 1 n = objectS K (begC s n) 1 := by simp [doneS]
    rw [hd] at hX
    simp only [go_sem, hof]
    refine W.call (object_c _ (K := K) (id := 2) (c := begC s n) ⟨show 2 < 3 by decide, r, hr.refA, rfl⟩ ⟨hs, hl⟩ 1) ?_
    rintro v s2 ⟨h1, hA, hk⟩
    obtain rfl : v = _ := h1
    rw [hX] at hA
    rw [← hd] at hX
    have hok := done_ok K hs 1 n
    have hcs : callS K s 1 n = if c1.err = 0 then (endS c1, 0) else (noS, c1.err) := by unfold callS; rw [hX]
    rw [hX] at hok
    rw [hcs]
    obtain ⟨q1, r2, q2, q3⟩ := And.intro hA.1 hA.2
    have q3 : s2.obj 2 = _ := q3
    have q3' := q3
    simp only [encC] at q3
    have o1 : s2.obj 1 = some (.cells 43 [.agg 43 [.agg 39 ((List.replicate 10 junk).map encW), .agg 40 ((List.replicate 8 junk).map encW), .mt true, .int .i64 0, .bool false, .int .i64 0]]) := (hk.2 1 (show 1 < 3 by decide) (by decide)).trans rfl
    simp only [go_sem, q3]
    subst ht
    exact call_tail _ K c1 r2 q2 hok _ _ (by (try simp only [go_sem, Int.toNat_natCast, List.length_take, *]) <;> first | done | rfl | omega | (simp <;> omega)) (by (try simp only [go_sem, Int.toNat_natCast, List.length_take, *]) <;> first | done | rfl | omega | (simp <;> omega)) q3' o1 rfl

  have w1' := eq_false w1
  by_cases w2 : what = 2
  · subst w2
    obtain ⟨c1, hX⟩ : ∃ c1, doneS K s 2 n = c1 := ⟨_, rfl⟩
    have hd : doneS K s 2 n = objectS K (begC s n) 2 := by simp [doneS]
    rw [hd] at hX
    simp only [go_sem, hof]
    refine W.call (object_c _ (K := K) (id := 2) (c := begC s n) ⟨show 2 < 3 by decide, r, hr.refA, rfl⟩ ⟨hs, hl⟩ 2) ?_
    rintro v s2 ⟨h1, hA, hk⟩
    obtain rfl : v = _ := h1
    rw [hX] at hA
    rw [← hd] at hX
    have hok := done_ok K hs 2 n
    have hcs : callS K s 2 n = if c1.err = 0 then (endS c1, 0) else (noS, c1.err) := by unfold callS; rw [hX]
    rw [hX] at hok
    rw [hcs]
    obtain ⟨q1, r2, q2, q3⟩ := And.intro hA.1 hA.2
    have q3 : s2.obj 2 = _ := q3
    have q3' := q3
    simp only [encC] at q3
    have o1 : s2.obj 1 = some (.cells 43 [.agg 43 [.agg 39 ((List.replicate 10 junk).map encW), .agg 40 ((List.replicate 8 junk).map encW), .mt true, .int .i64 0, .bool false, .int .i64 0]]) := (hk.2 1 (show 1 < 3 by decide) (by decide)).trans rfl
    simp only [go_sem, q3]
    subst ht
    exact call_tail _ K c1 r2 q2 hok _ _ (by (try simp only [go_sem, Int.toNat_natCast, List.length_take, *]) <;> first | done | rfl | omega | (simp <;> omega)) (by (try simp only [go_sem, Int.toNat_natCast, List.length_take, *]) <;> first | done | rfl | omega | (simp <;> omega)) q3' o1 rfl

  have w2' := eq_false w2
  by_cases w3 : what = 3
  · subst w3
    obtain ⟨c1, hX⟩ : ∃ c1, doneS K s 3 n = c1 := ⟨_, rfl⟩
    have hd : doneS K s 3 n = objectS K (begC s n) 3 := by simp [doneS]
    rw [hd] at hX
    simp only [go_sem, hof]
    refine W.call (object_c _ (K := K) (id := 2) (c := begC s n) ⟨show 2 < 3 by decide, r, hr.refA, rfl⟩ ⟨hs, hl⟩ 3) ?_
    rintro v s2 ⟨h1, hA, hk⟩
    obtain rfl : v = _ := h1
    rw [hX] at hA
    rw [← hd] at hX
    have hok := done_ok K hs 3 n
    have hcs : callS K s 3 n = if c1.err = 0 then (endS c1, 0) else (noS, c1.err) := by unfold callS; rw [hX]
    rw [hX] at hok
    rw [hcs]
    obtain ⟨q1, r2, q2, q3⟩ := And.intro hA.1 hA.2
    have q3 : s2.obj 2 = _ := q3
    have q3' := q3
    simp only [encC] at q3
    have o1 : s2.obj 1 = some (.cells 43 [.agg 43 [.agg 39 ((List.replicate 10 junk).map encW), .agg 40 ((List.replicate 8 junk).map encW), .mt true, .int .i64 0, .bool false, .int .i64 0]]) := (hk.2 1 (show 1 < 3 by decide) (by decide)).trans rfl
    simp only [go_sem, q3]
    subst ht
    exact call_tail _ K c1 r2 q2 hok _ _ (by (try simp only [go_sem, Int.toNat_natCast, List.length_take, *]) <;> first | done | rfl | omega | (simp <;> omega)) (by (try simp only [go_sem, Int.toNat_natCast, List.length_take, *]) <;> first | done | rfl | omega | (simp <;> omega)) q3' o1 rfl

  have w3' := eq_false w3
  by_cases w4 : what = 4
  · subst w4
    obtain ⟨c1, hX⟩ : ∃ c1, doneS K s 4 n = c1 := ⟨_, rfl⟩
    have hd : doneS K s 4 n = tableS K (begC s n) 4 := by simp [doneS]
    rw [hd] at hX
    simp only [go_sem, hof]
    refine W.call (table_c _ (K := K) (id := 2) (c := begC s n) ⟨show 2 < 3 by decide, r, hr.refA, rfl⟩ ⟨hs, hl⟩ hn0 4) ?_
    rintro v s2 ⟨h1, hA, hk⟩
    obtain rfl : v = _ := h1
    rw [hX] at hA
    rw [← hd] at hX
    have hok := done_ok K hs 4 n
    have hcs : callS K s 4 n = if c1.err = 0 then (endS c1, 0) else (noS, c1.err) := by unfold callS; rw [hX]
    rw [hX] at hok
    rw [hcs]
    obtain ⟨q1, r2, q2, q3⟩ := And.intro hA.1 hA.2
    have q3 : s2.obj 2 = _ := q3
    have q3' := q3
    simp only [encC] at q3
    have o1 : s2.obj 1 = some (.cells 43 [.agg 43 [.agg 39 ((List.replicate 10 junk).map encW), .agg 40 ((List.replicate 8 junk).map encW), .mt true, .int .i64 0, .bool false, .int .i64 0]]) := (hk.2 1 (show 1 < 3 by decide) (by decide)).trans rfl
    simp only [go_sem, q3]
    subst ht
    exact call_tail _ K c1 r2 q2 hok _ _ (by (try simp only [go_sem, Int.toNat_natCast, List.length_take, *]) <;> first | done | rfl | omega | (simp <;> omega)) (by (try simp only [go_sem, Int.toNat_natCast, List.length_take, *]) <;> first | done | rfl | omega | (simp <;> omega)) q3' o1 rfl

  have w4' := eq_false w4
  by_cases w5 : what = 5
  · subst w5
    obtain ⟨c1, hX⟩ : ∃ c1, doneS K s 5 n = c1 := ⟨_, rfl⟩
    have hd : doneS K s 5 n = tableS K (begC s n) 5 := by simp [doneS]
    rw [hd] at hX
    simp only [go_sem, hof]
    refine W.call (table_c _ (K := K) (id := 2) (c := begC s n) ⟨show 2 < 3 by decide, r, hr.refA, rfl⟩ ⟨hs, hl⟩ hn0 5) ?_
    rintro v s2 ⟨h1, hA, hk⟩
    obtain rfl : v = _ := h1
    rw [hX] at hA
    rw [← hd] at hX
    have hok := done_ok K hs 5 n
    have hcs : callS K s 5 n = if c1.err = 0 then (endS c1, 0) else (noS, c1.err) := by unfold callS; rw [hX]
    rw [hX] at hok
    rw [hcs]
    obtain ⟨q1, r2, q2, q3⟩ := And.intro hA.1 hA.2
    have q3 : s2.obj 2 = _ := q3
    have q3' := q3
    simp only [encC] at q3
    have o1 : s2.obj 1 = some (.cells 43 [.agg 43 [.agg 39 ((List.replicate 10 junk).map encW), .agg 40 ((List.replicate 8 junk).map encW), .mt true, .int .i64 0, .bool false, .int .i64 0]]) := (hk.2 1 (show 1 < 3 by decide) (by decide)).trans rfl
    simp only [go_sem, q3]
    subst ht
    exact call_tail _ K c1 r2 q2 hok _ _ (by (try simp only [go_sem, Int.toNat_natCast, List.length_take, *]) <;> first | done | rfl | omega | (simp <;> omega)) (by (try simp only [go_sem, Int.toNat_natCast, List.length_take, *]) <;> first | done | rfl | omega | (simp <;> omega)) q3' o1 rfl

  have w5' := eq_false w5
  by_cases w6 : what = 6
  · subst w6
    obtain ⟨c1, hX⟩ : ∃ c1, doneS K s 6 n = c1 := ⟨_, rfl⟩
    have hd : doneS K s 6 n = tableS K (begC s n) 6 := by simp [doneS]
    rw [hd] at hX
    simp only [go_sem, hof]
    refine W.call (table_c _ (K := K) (id := 2) (c := begC s n) ⟨show 2 < 3 by decide, r, hr.refA, rfl⟩ ⟨hs, hl⟩ hn0 6) ?_
    rintro v s2 ⟨h1, hA, hk⟩
    obtain rfl : v = _ := h1
    rw [hX] at hA
    rw [← hd] at hX
    have hok := done_ok K hs 6 n
    have hcs : callS K s 6 n = if c1.err = 0 then (endS c1, 0) else (noS, c1.err) := by unfold callS; rw [hX]
    rw [hX] at hok
    rw [hcs]
    obtain ⟨q1, r2, q2, q3⟩ := And.intro hA.1 hA.2
    have q3 : s2.obj 2 = _ := q3
    have q3' := q3
    simp only [encC] at q3
    have o1 : s2.obj 1 = some (.cells 43 [.agg 43 [.agg 39 ((List.replicate 10 junk).map encW), .agg 40 ((List.replicate 8 junk).map encW), .mt true, .int .i64 0, .bool false, .int .i64 0]]) := (hk.2 1 (show 1 < 3 by decide) (by decide)).trans rfl
    simp only [go_sem, q3]
    subst ht
    exact call_tail _ K c1 r2 q2 hok _ _ (by (try simp only [go_sem, Int.toNat_natCast, List.length_take, *]) <;> first | done | rfl | omega | (simp <;> omega)) (by (try simp only [go_sem, Int.toNat_natCast, List.length_take, *]) <;> first | done | rfl | omega | (simp <;> omega)) q3' o1 rfl

  have w6' := eq_false w6
  by_cases w7 : what = 7
  · subst w7
    obtain ⟨c1, hX⟩ : ∃ c1, doneS K s 7 n = c1 := ⟨_, rfl⟩
    have hd : doneS K s 7 n = regionS K (begC s n) 7 := by simp [doneS]
    rw [hd] at hX
    simp only [go_sem, hof]
    refine W.call (region_c _ (K := K) (id := 2) (c := begC s n) ⟨show 2 < 3 by decide, r, hr.refA, rfl⟩ ⟨hs, hl⟩ 7) ?_
    rintro v s2 ⟨h1, hA, hk⟩
    obtain rfl : v = _ := h1
    rw [hX] at hA
    rw [← hd] at hX
    have hok := done_ok K hs 7 n
    have hcs : callS K s 7 n = if c1.err = 0 then (endS c1, 0) else (noS, c1.err) := by unfold callS; rw [hX]
    rw [hX] at hok
    rw [hcs]
    obtain ⟨q1, r2, q2, q3⟩ := And.intro hA.1 hA.2
    have q3 : s2.obj 2 = _ := q3
    have q3' := q3
    simp only [encC] at q3
    have o1 : s2.obj 1 = some (.cells 43 [.agg 43 [.agg 39 ((List.replicate 10 junk).map encW), .agg 40 ((List.replicate 8 junk).map encW), .mt true, .int .i64 0, .bool false, .int .i64 0]]) := (hk.2 1 (show 1 < 3 by decide) (by decide)).trans rfl
    simp only [go_sem, q3]
    subst ht
    exact call_tail _ K c1 r2 q2 hok _ _ (by (try simp only [go_sem, Int.toNat_natCast, List.length_take, *]) <;> first | done | rfl | omega | (simp <;> omega)) (by (try simp only [go_sem, Int.toNat_natCast, List.length_take, *]) <;> first | done | rfl | omega | (simp <;> omega)) q3' o1 rfl

  have w7' := eq_false w7
  by_cases w8 : what = 8
  · subst w8
    obtain ⟨c1, hX⟩ : ∃ c1, doneS K s 8 n = c1 := ⟨_, rfl⟩
    have hd : doneS K s 8 n = regionS K (begC s n) 8 := by simp [doneS]
    rw [hd] at hX
    simp only [go_sem, hof]
    refine W.call (region_c _ (K := K) (id := 2) (c := begC s n) ⟨show 2 < 3 by decide, r, hr.refA, rfl⟩ ⟨hs, hl⟩ 8) ?_
    rintro v s2 ⟨h1, hA, hk⟩
    obtain rfl : v = _ := h1
    rw [hX] at hA
    rw [← hd] at hX
    have hok := done_ok K hs 8 n
    have hcs : callS K s 8 n = if c1.err = 0 then (endS c1, 0) else (noS, c1.err) := by unfold callS; rw [hX]
    rw [hX] at hok
    rw [hcs]
    obtain ⟨q1, r2, q2, q3⟩ := And.intro hA.1 hA.2
    have q3 : s2.obj 2 = _ := q3
    have q3' := q3
    simp only [encC] at q3
    have o1 : s2.obj 1 = some (.cells 43 [.agg 43 [.agg 39 ((List.replicate 10 junk).map encW), .agg 40 ((List.replicate 8 junk).map encW), .mt true, .int .i64 0, .bool false, .int .i64 0]]) := (hk.2 1 (show 1 < 3 by decide) (by decide)).trans rfl
    simp only [go_sem, q3]
    subst ht
    exact call_tail _ K c1 r2 q2 hok _ _ (by (try simp only [go_sem, Int.toNat_natCast, List.length_take, *]) <;> first | done | rfl | omega | (simp <;> omega)) (by (try simp only [go_sem, Int.toNat_natCast, List.length_take, *]) <;> first | done | rfl | omega | (simp <;> omega)) q3' o1 rfl

  have w8' := eq_false w8
  by_cases w9 : what = 9
  · subst w9
    obtain ⟨c1, hX⟩ : ∃ c1, doneS K s 9 n = c1 := ⟨_, rfl⟩
    have hd : doneS K s 9 n = listS K (begC s n) 9 := by simp [doneS]
    rw [hd] at hX
    simp only [go_sem, hof]
    refine W.call (list_c _ (K := K) (id := 2) (c := begC s n) ⟨show 2 < 3 by decide, r, hr.refA, rfl⟩ ⟨hs, hl⟩ 9) ?_
    rintro v s2 ⟨h1, hA, hk⟩
    obtain rfl : v = _ := h1
    rw [hX] at hA
    rw [← hd] at hX
    have hok := done_ok K hs 9 n
    have hcs : callS K s 9 n = if c1.err = 0 then (endS c1, 0) else (noS, c1.err) := by unfold callS; rw [hX]
    rw [hX] at hok
    rw [hcs]
    obtain ⟨q1, r2, q2, q3⟩ := And.intro hA.1 hA.2
    have q3 : s2.obj 2 = _ := q3
    have q3' := q3
    simp only [encC] at q3
    have o1 : s2.obj 1 = some (.cells 43 [.agg 43 [.agg 39 ((List.replicate 10 junk).map encW), .agg 40 ((List.replicate 8 junk).map encW), .mt true, .int .i64 0, .bool false, .int .i64 0]]) := (hk.2 1 (show 1 < 3 by decide) (by decide)).trans rfl
    simp only [go_sem, q3]
    subst ht
    exact call_tail _ K c1 r2 q2 hok _ _ (by (try simp only [go_sem, Int.toNat_natCast, List.length_take, *]) <;> first | done | rfl | omega | (simp <;> omega)) (by (try simp only [go_sem, Int.toNat_natCast, List.length_take, *]) <;> first | done | rfl | omega | (simp <;> omega)) q3' o1 rfl

  have w9' := eq_false w9
  by_cases w10 : what = 10
  · subst w10
    obtain ⟨c1, hX⟩ : ∃ c1, doneS K s 10 n = c1 := ⟨_, rfl⟩
    have hd : doneS K s 10 n = listS K (begC s n) 10 := by simp [doneS]
    rw [hd] at hX
    simp only [go_sem, hof]
    refine W.call (list_c _ (K := K) (id := 2) (c := begC s n) ⟨show 2 < 3 by decide, r, hr.refA, rfl⟩ ⟨hs, hl⟩ 10) ?_
    rintro v s2 ⟨h1, hA, hk⟩
    obtain rfl : v = _ := h1
    rw [hX] at hA
    rw [← hd] at hX
    have hok := done_ok K hs 10 n
    have hcs : callS K s 10 n = if c1.err = 0 then (endS c1, 0) else (noS, c1.err) := by unfold callS; rw [hX]
    rw [hX] at hok
    rw [hcs]
    obtain ⟨q1, r2, q2, q3⟩ := And.intro hA.1 hA.2
    have q3 : s2.obj 2 = _ := q3
    have q3' := q3
    simp only [encC] at q3
    have o1 : s2.obj 1 = some (.cells 43 [.agg 43 [.agg 39 ((List.replicate 10 junk).map encW), .agg 40 ((List.replicate 8 junk).map encW), .mt true, .int .i64 0, .bool false, .int .i64 0]]) := (hk.2 1 (show 1 < 3 by decide) (by decide)).trans rfl
    simp only [go_sem, q3]
    subst ht
    exact call_tail _ K c1 r2 q2 hok _ _ (by (try simp only [go_sem, Int.toNat_natCast, List.length_take, *]) <;> first | done | rfl | omega | (simp <;> omega)) (by (try simp only [go_sem, Int.toNat_natCast, List.length_take, *]) <;> first | done | rfl | omega | (simp <;> omega)) q3' o1 rfl

  have w10' := eq_false w10
  by_cases w11 : what = 11
  · subst w11
    obtain ⟨c1, hX⟩ : ∃ c1, doneS K s 11 n = c1 := ⟨_, rfl⟩
    have hd : doneS K s 11 n = listS K (begC s n) 11 := by simp [doneS]
    rw [hd] at hX
    simp only [go_sem, hof]
    refine W.call (list_c _ (K := K) (id := 2) (c := begC s n) ⟨show 2 < 3 by decide, r, hr.refA, rfl⟩ ⟨hs, hl⟩ 11) ?_
    rintro v s2 ⟨h1, hA, hk⟩
    obtain rfl : v = _ := h1
    rw [hX] at hA
    rw [← hd] at hX
    have hok := done_ok K hs 11 n
    have hcs : callS K s 11 n = if c1.err = 0 then (endS c1, 0) else (noS, c1.err) := by unfold callS; rw [hX]
    rw [hX] at hok
    rw [hcs]
    obtain ⟨q1, r2, q2, q3⟩ := And.intro hA.1 hA.2
    have q3 : s2.obj 2 = _ := q3
    have q3' := q3
    simp only [encC] at q3
    have o1 : s2.obj 1 = some (.cells 43 [.agg 43 [.agg 39 ((List.replicate 10 junk).map encW), .agg 40 ((List.replicate 8 junk).map encW), .mt true, .int .i64 0, .bool false, .int .i64 0]]) := (hk.2 1 (show 1 < 3 by decide) (by decide)).trans rfl
    simp only [go_sem, q3]
    subst ht
    exact call_tail _ K c1 r2 q2 hok _ _ (by (try simp only [go_sem, Int.toNat_natCast, List.length_take, *]) <;> first | done | rfl | omega | (simp <;> omega)) (by (try simp only [go_sem, Int.toNat_natCast, List.length_take, *]) <;> first | done | rfl | omega | (simp <;> omega)) q3' o1 rfl

  have w11' := eq_false w11
  by_cases w12 : what = 12
  · subst w12
    obtain ⟨c1, hX⟩ : ∃ c1, doneS K s 12 n = c1 := ⟨_, rfl⟩
    have hd : doneS K s 12 n = listS K (begC s n) 12 := by simp [doneS]
    rw [hd] at hX
    simp only [go_sem, hof]
    refine W.call (list_c _ (K := K) (id := 2) (c := begC s n) ⟨show 2 < 3 by decide, r, hr.refA, rfl⟩ ⟨hs, hl⟩ 12) ?_
    rintro v s2 ⟨h1, hA, hk⟩
    obtain rfl : v = _ := h1
    rw [hX] at hA
    rw [← hd] at hX
    have hok := done_ok K hs 12 n
    have hcs : callS K s 12 n = if c1.err = 0 then (endS c1, 0) else (noS, c1.err) := by unfold callS; rw [hX]
    rw [hX] at hok
    rw [hcs]
    obtain ⟨q1, r2, q2, q3⟩ := And.intro hA.1 hA.2
    have q3 : s2.obj 2 = _ := q3
    have q3' := q3
    simp only [encC] at q3
    have o1 : s2.obj 1 = some (.cells 43 [.agg 43 [.agg 39 ((List.replicate 10 junk).map encW), .agg 40 ((List.replicate 8 junk).map encW), .mt true, .int .i64 0, .bool false, .int .i64 0]]) := (hk.2 1 (show 1 < 3 by decide) (by decide)).trans rfl
    simp only [go_sem, q3]
    subst ht
    exact call_tail _ K c1 r2 q2 hok _ _ (by (try simp only [go_sem, Int.toNat_natCast, List.length_take, *]) <;> first | done | rfl | omega | (simp <;> omega)) (by (try simp only [go_sem, Int.toNat_natCast, List.length_take, *]) <;> first | done | rfl | omega | (simp <;> omega)) q3' o1 rfl

  have w12' := eq_false w12
  by_cases w13 : what = 13
  · subst w13
    obtain ⟨c1, hX⟩ : ∃ c1, doneS K s 13 n = c1 := ⟨_, rfl⟩
    have hd : doneS K s 13 n = listS K (begC s n) 13 := by simp [doneS]
    rw [hd] at hX
    simp only [go_sem, hof]
    refine W.call (list_c _ (K := K) (id := 2) (c := begC s n) ⟨show 2 < 3 by decide, r, hr.refA, rfl⟩ ⟨hs, hl⟩ 13) ?_
    rintro v s2 ⟨h1, hA, hk⟩
    obtain rfl : v = _ := h1
    rw [hX] at hA
    rw [← hd] at hX
    have hok := done_ok K hs 13 n
    have hcs : callS K s 13 n = if c1.err = 0 then (endS c1, 0) else (noS, c1.err) := by unfold callS; rw [hX]
    rw [hX] at hok
    rw [hcs]
    obtain ⟨q1, r2, q2, q3⟩ := And.intro hA.1 hA.2
    have q3 : s2.obj 2 = _ := q3
    have q3' := q3
    simp only [encC] at q3
    have o1 : s2.obj 1 = some (.cells 43 [.agg 43 [.agg 39 ((List.replicate 10 junk).map encW), .agg 40 ((List.replicate 8 junk).map encW), .mt true, .int .i64 0, .bool false, .int .i64 0]]) := (hk.2 1 (show 1 < 3 by decide) (by decide)).trans rfl
    simp only [go_sem, q3]
    subst ht
    exact call_tail _ K c1 r2 q2 hok _ _ (by (try simp only [go_sem, Int.toNat_natCast, List.length_take, *]) <;> first | done | rfl | omega | (simp <;> omega)) (by (try simp only [go_sem, Int.toNat_natCast, List.length_take, *]) <;> first | done | rfl | omega | (simp <;> omega)) q3' o1 rfl

  have w13' := eq_false w13
  by_cases w14 : what = 14
  · subst w14
    obtain ⟨c1, hX⟩ : ∃ c1, doneS K s 14 n = c1 := ⟨_, rfl⟩
    have hd : doneS K s 14 n = treeS K (begC s n) 14 := by simp [doneS]
    rw [hd] at hX
    simp only [go_sem, hof]
    refine W.call (tree_c _ (K := K) (id := 2) (c := begC s n) ⟨show 2 < 3 by decide, r, hr.refA, rfl⟩ ⟨hs, hl⟩ 14) ?_
    rintro v s2 ⟨h1, hA, hk⟩
    obtain rfl : v = _ := h1
    rw [hX] at hA
    rw [← hd] at hX
    have hok := done_ok K hs 14 n
    have hcs : callS K s 14 n = if c1.err = 0 then (endS c1, 0) else (noS, c1.err) := by unfold callS; rw [hX]
    rw [hX] at hok
    rw [hcs]
    obtain ⟨q1, r2, q2, q3⟩ := And.intro hA.1 hA.2
    have q3 : s2.obj 2 = _ := q3
    have q3' := q3
    simp only [encC] at q3
    have o1 : s2.obj 1 = some (.cells 43 [.agg 43 [.agg 39 ((List.replicate 10 junk).map encW), .agg 40 ((List.replicate 8 junk).map encW), .mt true, .int .i64 0, .bool false, .int .i64 0]]) := (hk.2 1 (show 1 < 3 by decide) (by decide)).trans rfl
    simp only [go_sem, q3]
    subst ht
    exact call_tail _ K c1 r2 q2 hok _ _ (by (try simp only [go_sem, Int.toNat_natCast, List.length_take, *]) <;> first | done | rfl | omega | (simp <;> omega)) (by (try simp only [go_sem, Int.toNat_natCast, List.length_take, *]) <;> first | done | rfl | omega | (simp <;> omega)) q3' o1 rfl

  have w14' := eq_false w14
  by_cases w15 : what = 15
  · subst w15
    obtain ⟨c1, hX⟩ : ∃ c1, doneS K s 15 n = c1 := ⟨_, rfl⟩
    have hd : doneS K s 15 n = treeS K (begC s n) 15 := by simp [doneS]
    rw [hd] at hX
    simp only [go_sem, hof]
    refine W.call (tree_c _ (K := K) (id := 2) (c := begC s n) ⟨show 2 < 3 by decide, r, hr.refA, rfl⟩ ⟨hs, hl⟩ 15) ?_
    rintro v s2 ⟨h1, hA, hk⟩
    obtain rfl : v = _ := h1
    rw [hX] at hA
    rw [← hd] at hX
    have hok := done_ok K hs 15 n
    have hcs : callS K s 15 n = if c1.err = 0 then (endS c1, 0) else (noS, c1.err) := by unfold callS; rw [hX]
    rw [hX] at hok
    rw [hcs]
    obtain ⟨q1, r2, q2, q3⟩ := And.intro hA.1 hA.2
    have q3 : s2.obj 2 = _ := q3
    have q3' := q3
    simp only [encC] at q3
    have o1 : s2.obj 1 = some (.cells 43 [.agg 43 [.agg 39 ((List.replicate 10 junk).map encW), .agg 40 ((List.replicate 8 junk).map encW), .mt true, .int .i64 0, .bool false, .int .i64 0]]) := (hk.2 1 (show 1 < 3 by decide) (by decide)).trans rfl
    simp only [go_sem, q3]
    subst ht
    exact call_tail _ K c1 r2 q2 hok _ _ (by (try simp only [go_sem, Int.toNat_natCast, List.length_take, *]) <;> first | done | rfl | omega | (simp <;> omega)) (by (try simp only [go_sem, Int.toNat_natCast, List.length_take, *]) <;> first | done | rfl | omega | (simp <;> omega)) q3' o1 rfl

  have w15' := eq_false w15
  by_cases w16 : what = 16
  · subst w16
    obtain ⟨c1, hX⟩ : ∃ c1, doneS K s 16 n = c1 := ⟨_, rfl⟩
    have hd : doneS K s 16 n = treeS K (begC s n) 16 := by simp [doneS]
    rw [hd] at hX
    simp only [go_sem, hof]
    refine W.call (tree_c _ (K := K) (id := 2) (c := begC s n) ⟨show 2 < 3 by decide, r, hr.refA, rfl⟩ ⟨hs, hl⟩ 16) ?_
    rintro v s2 ⟨h1, hA, hk⟩
    obtain rfl : v = _ := h1
    rw [hX] at hA
    rw [← hd] at hX
    have hok := done_ok K hs 16 n
    have hcs : callS K s 16 n = if c1.err = 0 then (endS c1, 0) else (noS, c1.err) := by unfold callS; rw [hX]
    rw [hX] at hok
    rw [hcs]
    obtain ⟨q1, r2, q2, q3⟩ := And.intro hA.1 hA.2
    have q3 : s2.obj 2 = _ := q3
    have q3' := q3
    simp only [encC] at q3
    have o1 : s2.obj 1 = some (.cells 43 [.agg 43 [.agg 39 ((List.replicate 10 junk).map encW), .agg 40 ((List.replicate 8 junk).map encW), .mt true, .int .i64 0, .bool false, .int .i64 0]]) := (hk.2 1 (show 1 < 3 by decide) (by decide)).trans rfl
    simp only [go_sem, q3]
    subst ht
    exact call_tail _ K c1 r2 q2 hok _ _ (by (try simp only [go_sem, Int.toNat_natCast, List.length_take, *]) <;> first | done | rfl | omega | (simp <;> omega)) (by (try simp only [go_sem, Int.toNat_natCast, List.length_take, *]) <;> first | done | rfl | omega | (simp <;> omega)) q3' o1 rfl

  have w16' := eq_false w16
  by_cases w17 : what = 17
  · subst w17
    obtain ⟨c1, hX⟩ : ∃ c1, doneS K s 17 n = c1 := ⟨_, rfl⟩
    have hd : doneS K s 17 n = treeS K (begC s n) 17 := by simp [doneS]
    rw [hd] at hX
    simp only [go_sem, hof]
    refine W.call (tree_c _ (K := K) (id := 2) (c := begC s n) ⟨show 2 < 3 by decide, r, hr.refA, rfl⟩ ⟨hs, hl⟩ 17) ?_
    rintro v s2 ⟨h1, hA, hk⟩
    obtain rfl : v = _ := h1
    rw [hX] at hA
    rw [← hd] at hX
    have hok := done_ok K hs 17 n
    have hcs : callS K s 17 n = if c1.err = 0 then (endS c1, 0) else (noS, c1.err) := by unfold callS; rw [hX]
    rw [hX] at hok
    rw [hcs]
    obtain ⟨q1, r2, q2, q3⟩ := And.intro hA.1 hA.2
    have q3 : s2.obj 2 = _ := q3
    have q3' := q3
    simp only [encC] at q3
    have o1 : s2.obj 1 = some (.cells 43 [.agg 43 [.agg 39 ((List.replicate 10 junk).map encW), .agg 40 ((List.replicate 8 junk).map encW), .mt true, .int .i64 0, .bool false, .int .i64 0]]) := (hk.2 1 (show 1 < 3 by decide) (by decide)).trans rfl
    simp only [go_sem, q3]
    subst ht
    exact call_tail _ K c1 r2 q2 hok _ _ (by (try simp only [go_sem, Int.toNat_natCast, List.length_take, *]) <;> first | done | rfl | omega | (simp <;> omega)) (by (try simp only [go_sem, Int.toNat_natCast, List.length_take, *]) <;> first | done | rfl | omega | (simp <;> omega)) q3' o1 rfl

  have w17' := eq_false w17
  by_cases w18 : what = 18
  · subst w18
    obtain ⟨c1, hX⟩ : ∃ c1, doneS K s 18 n = c1 := ⟨_, rfl⟩
    have hd : doneS K s 18 n = treeS K (begC s n) 18 := by simp [doneS]
    rw [hd] at hX
    simp only [go_sem, hof]
    refine W.call (tree_c _ (K := K) (id := 2) (c := begC s n) ⟨show 2 < 3 by decide, r, hr.refA, rfl⟩ ⟨hs, hl⟩ 18) ?_
    rintro v s2 ⟨h1, hA, hk⟩
    obtain rfl : v = _ := h1
    rw [hX] at hA
    rw [← hd] at hX
    have hok := done_ok K hs 18 n
    have hcs : callS K s 18 n = if c1.err = 0 then (endS c1, 0) else (noS, c1.err) := by unfold callS; rw [hX]
    rw [hX] at hok
    rw [hcs]
    obtain ⟨q1, r2, q2, q3⟩ := And.intro hA.1 hA.2
    have q3 : s2.obj 2 = _ := q3
    have q3' := q3
    simp only [encC] at q3
    have o1 : s2.obj 1 = some (.cells 43 [.agg 43 [.agg 39 ((List.replicate 10 junk).map encW), .agg 40 ((List.replicate 8 junk).map encW), .mt true, .int .i64 0, .bool false, .int .i64 0]]) := (hk.2 1 (show 1 < 3 by decide) (by decide)).trans rfl
    simp only [go_sem, q3]
    subst ht
    exact call_tail _ K c1 r2 q2 hok _ _ (by (try simp only [go_sem, Int.toNat_natCast, List.length_take, *]) <;> first | done | rfl | omega | (simp <;> omega)) (by (try simp only [go_sem, Int.toNat_natCast, List.length_take, *]) <;> first | done | rfl | omega | (simp <;> omega)) q3' o1 rfl

  have w18' := eq_false w18
  by_cases w19 : what = 19
  · subst w19
    obtain ⟨c1, hX⟩ : ∃ c1, doneS K s 19 n = c1 := ⟨_, rfl⟩
    have hd : doneS K s 19 n = pointerS K (begC s n) 19 := by simp [doneS]
    rw [hd] at hX
    simp only [go_sem, hof]
    refine W.call (pointer_c _ (K := K) (id := 2) (c := begC s n) ⟨show 2 < 3 by decide, r, hr.refA, rfl⟩ ⟨hs, hl⟩ 19) ?_
    rintro v s2 ⟨h1, hA, hk⟩
    obtain rfl : v = _ := h1
    rw [hX] at hA
    rw [← hd] at hX
    have hok := done_ok K hs 19 n
    have hcs : callS K s 19 n = if c1.err = 0 then (endS c1, 0) else (noS, c1.err) := by unfold callS; rw [hX]
    rw [hX] at hok
    rw [hcs]
    obtain ⟨q1, r2, q2, q3⟩ := And.intro hA.1 hA.2
    have q3 : s2.obj 2 = _ := q3
    have q3' := q3
    simp only [encC] at q3
    have o1 : s2.obj 1 = some (.cells 43 [.agg 43 [.agg 39 ((List.replicate 10 junk).map encW), .agg 40 ((List.replicate 8 junk).map encW), .mt true, .int .i64 0, .bool false, .int .i64 0]]) := (hk.2 1 (show 1 < 3 by decide) (by decide)).trans rfl
    simp only [go_sem, q3]
    subst ht
    exact call_tail _ K c1 r2 q2 hok _ _ (by (try simp only [go_sem, Int.toNat_natCast, List.length_take, *]) <;> first | done | rfl | omega | (simp <;> omega)) (by (try simp only [go_sem, Int.toNat_natCast, List.length_take, *]) <;> first | done | rfl | omega | (simp <;> omega)) q3' o1 rfl

  have w19' := eq_false w19
  by_cases w20 : what = 20
  · subst w20
    obtain ⟨c1, hX⟩ : ∃ c1, doneS K s 20 n = c1 := ⟨_, rfl⟩
    have hd : doneS K s 20 n = pointerS K (begC s n) 20 := by simp [doneS]
    rw [hd] at hX
    simp only [go_sem, hof]
    refine W.call (pointer_c _ (K := K) (id := 2) (c := begC s n) ⟨show 2 < 3 by decide, r, hr.refA, rfl⟩ ⟨hs, hl⟩ 20) ?_
    rintro v s2 ⟨h1, hA, hk⟩
    obtain rfl : v = _ := h1
    rw [hX] at hA
    rw [← hd] at hX
    have hok := done_ok K hs 20 n
    have hcs : callS K s 20 n = if c1.err = 0 then (endS c1, 0) else (noS, c1.err) := by unfold callS; rw [hX]
    rw [hX] at hok
    rw [hcs]
    obtain ⟨q1, r2, q2, q3⟩ := And.intro hA.1 hA.2
    have q3 : s2.obj 2 = _ := q3
    have q3' := q3
    simp only [encC] at q3
    have o1 : s2.obj 1 = some (.cells 43 [.agg 43 [.agg 39 ((List.replicate 10 junk).map encW), .agg 40 ((List.replicate 8 junk).map encW), .mt true, .int .i64 0, .bool false, .int .i64 0]]) := (hk.2 1 (show 1 < 3 by decide) (by decide)).trans rfl
    simp only [go_sem, q3]
    subst ht
    exact call_tail _ K c1 r2 q2 hok _ _ (by (try simp only [go_sem, Int.toNat_natCast, List.length_take, *]) <;> first | done | rfl | omega | (simp <;> omega)) (by (try simp only [go_sem, Int.toNat_natCast, List.length_take, *]) <;> first | done | rfl | omega | (simp <;> omega)) q3' o1 rfl

  have w20' := eq_false w20
  by_cases w21 : what = 21
  · subst w21
    obtain ⟨c1, hX⟩ : ∃ c1, doneS K s 21 n = c1 := ⟨_, rfl⟩
    have hd : doneS K s 21 n = regionS K (begC s n) 21 := by simp [doneS]
    rw [hd] at hX
    simp only [go_sem, hof]
    refine W.call (region_c _ (K := K) (id := 2) (c := begC s n) ⟨show 2 < 3 by decide, r, hr.refA, rfl⟩ ⟨hs, hl⟩ 21) ?_
    rintro v s2 ⟨h1, hA, hk⟩
    obtain rfl : v = _ := h1
    rw [hX] at hA
    rw [← hd] at hX
    have hok := done_ok K hs 21 n
    have hcs : callS K s 21 n = if c1.err = 0 then (endS c1, 0) else (noS, c1.err) := by unfold callS; rw [hX]
    rw [hX] at hok
    rw [hcs]
    obtain ⟨q1, r2, q2, q3⟩ := And.intro hA.1 hA.2
    have q3 : s2.obj 2 = _ := q3
    have q3' := q3
    simp only [encC] at q3
    have o1 : s2.obj 1 = some (.cells 43 [.agg 43 [.agg 39 ((List.replicate 10 junk).map encW), .agg 40 ((List.replicate 8 junk).map encW), .mt true, .int .i64 0, .bool false, .int .i64 0]]) := (hk.2 1 (show 1 < 3 by decide) (by decide)).trans rfl
    simp only [go_sem, q3]
    subst ht
    exact call_tail _ K c1 r2 q2 hok _ _ (by (try simp only [go_sem, Int.toNat_natCast, List.length_take, *]) <;> first | done | rfl | omega | (simp <;> omega)) (by (try simp only [go_sem, Int.toNat_natCast, List.length_take, *]) <;> first | done | rfl | omega | (simp <;> omega)) q3' o1 rfl

  have w21' := eq_false w21
  by_cases w22 : what = 22
  · subst w22
    obtain ⟨c1, hX⟩ : ∃ c1, doneS K s 22 n = c1 := ⟨_, rfl⟩
    have hd : doneS K s 22 n = regionS K (begC s n) 22 := by simp [doneS]
    rw [hd] at hX
    simp only [go_sem, hof]
    refine W.call (region_c _ (K := K) (id := 2) (c := begC s n) ⟨show 2 < 3 by decide, r, hr.refA, rfl⟩ ⟨hs, hl⟩ 22) ?_
    rintro v s2 ⟨h1, hA, hk⟩
    obtain rfl : v = _ := h1
    rw [hX] at hA
    rw [← hd] at hX
    have hok := done_ok K hs 22 n
    have hcs : callS K s 22 n = if c1.err = 0 then (endS c1, 0) else (noS, c1.err) := by unfold callS; rw [hX]
    rw [hX] at hok
    rw [hcs]
    obtain ⟨q1, r2, q2, q3⟩ := And.intro hA.1 hA.2
    have q3 : s2.obj 2 = _ := q3
    have q3' := q3
    simp only [encC] at q3
    have o1 : s2.obj 1 = some (.cells 43 [.agg 43 [.agg 39 ((List.replicate 10 junk).map encW), .agg 40 ((List.replicate 8 junk).map encW), .mt true, .int .i64 0, .bool false, .int .i64 0]]) := (hk.2 1 (show 1 < 3 by decide) (by decide)).trans rfl
    simp only [go_sem, q3]
    subst ht
    exact call_tail _ K c1 r2 q2 hok _ _ (by (try simp only [go_sem, Int.toNat_natCast, List.length_take, *]) <;> first | done | rfl | omega | (simp <;> omega)) (by (try simp only [go_sem, Int.toNat_natCast, List.length_take, *]) <;> first | done | rfl | omega | (simp <;> omega)) q3' o1 rfl

  have w22' := eq_false w22
  have hd : doneS K s what n = { begC s n with err := 1 } := by simp [doneS, w1, w2, w3, w4, w5, w6, w7, w8, w9, w10, w11, w12, w13, w14, w15, w16, w17, w18, w19, w20, w21, w22]
  have hcs : callS K s what n = (noS, 1) := by unfold callS; rw [hd]; rfl
  rw [hcs]
  simp only [go_sem, w1', w2', w3', w4', w5', w6', w7', w8', w9', w10', w11', w12', w13', w14', w15', w16', w17', w18', w19', w20', w21', w22']
  subst ht
  refine call_tail (X := (noS, 1)) _ K { begC s n with err := 1 } r hr.refA hs _ _ (by (try simp only [go_sem, Int.toNat_natCast, List.length_take, *]) <;> first | done | rfl | omega | (simp <;> omega)) (by (try simp only [go_sem, Int.toNat_natCast, List.length_take, *]) <;> first | done | rfl | omega | (simp <;> omega)) ?_ ?_ (by rw [if_neg (by simp)])
  · rfl
  · rfl
end Go.Proofs.Yticlihmbikcohaa.Va

/- chapter 18: what is told: the same, spans, kinds -/
namespace Go.Proofs.Yticlihmbikcohaa.Va
open Go
set_option linter.unusedVariables false
set_option linter.unusedSimpArgs false
set_option maxRecDepth 100000
theorem spanMay_c (d : Nat) (lo hi : Int) : evalF Try.prog CC (d + 1) 30 [.agg 36 [.int .u64 lo, .int .u64 hi]] St.empty = some (.bool (decide (lo ≤ hi)), St.empty) := by
  refine wp_eq ?_
  rw [run_30 _ _ _ (by simp)]; unfold Try.f30; simp only [Option.getD_some]
  simp only [go_sem, *]
  rfl
theorem pointer_k (d : Nat) (k : Int) : evalF Try.prog CC (d + 1) 31 [.int .i64 k] St.empty = some (.bool (decide (3 ≤ k ∧ k ≤ 6)), St.empty) := by
  refine wp_eq ?_
  rw [run_31 _ _ _ (by simp)]; unfold Try.f31; simp only [Option.getD_some]
  simp only [go_sem, *]
  by_cases h1 : k ≥ 3
  · by_cases h2 : k ≤ 6
    · have e : decide (3 ≤ k ∧ k ≤ 6) = true := by simp; omega
      rw [e]
      simp only [go_sem, h1, h2]
      rfl
    · have e : decide (3 ≤ k ∧ k ≤ 6) = false := by simp; omega
      rw [e]
      simp only [go_sem, h1, h2]
      rfl
  · have e : decide (3 ≤ k ∧ k ≤ 6) = false := by simp; omega
    rw [e]
    simp only [go_sem, h1]
    rfl
theorem comp_W (w u : Wht) (h : ¬ w = u) : (decide (w.kind = u.kind) && (decide (w.type = u.type) && (decide (w.id = u.id) && (decide (w.link = u.link) && (w.maybe == u.maybe && (decide (w.lo = u.lo) && decide (w.hi = u.hi))))))) = false := by
  rw [Bool.eq_false_iff]
  intro h'
  simp only [Bool.and_eq_true, decide_eq_true_eq, beq_iff_eq] at h'
  obtain ⟨h1, h2, h3, h4, h5, h6, h7⟩ := h'
  apply h
  cases w
  cases u
  simp_all
theorem RefP.len {r : AV} {xs : List Int} (h : RefP r xs) (m : Mem) : @aLen T m 41 r = some (.int .i64 xs.length) := by
  rcases h with ⟨rfl, b, rfl⟩ | ⟨b, rfl, _⟩
  · simp [aLen, ty_41]
  · simp [aLen, ty_41, intsA]
theorem RefP.idx {r : AV} {xs : List Int} (h : RefP r xs) {i : Nat} (hi : i < xs.length) : aIndexAddr T 41 r (.int .i64 (i : Nat)) = some (.fptr 3 (.int .i64 xs[i])) := by
  rcases h with ⟨rfl, b, rfl⟩ | ⟨b, rfl, _⟩
  · simp at hi
  · simp only [aIndexAddr, ty_41]
    rw [if_pos ⟨trivial, by omega, by simp [intsA]; omega⟩]
    simp [intsA, hi]
theorem ix_slot (id : Nat) (p : List Nat) (i : Nat) (h : i < 8) : aIndexAddr T 40 (.ptr 40 id p) (.int .i64 (i : Int)) = some (.ptr 38 id (p ++ [i])) := by
  simp only [aIndexAddr, ty_40]
  rw [if_pos ⟨by simp [Tab.same], by omega, by omega⟩]
  rw [Int.toNat_natCast]
set_option maxHeartbeats 40000000 in
theorem call_tupS {R : Type} {P : Option R → Prop} {X : Option (AV × St)} {σ s : St} {ids : List Nat} {t : TypeId} {us vs : List AV} {k : AV → St → Option R} (hc : X = some (.tup (.agg t us :: vs), s)) (hp : pure1 (.agg t us) = true) (hvs : pureL vs = true) (hids : ids = []) (h : Wp P (k (.tup (.agg t us :: vs)) σ)) :
    Wp P (@bnd2 R X ⟨fun v s => @br R (noMem v) ⟨k v σ⟩ ⟨@br R false ⟨none⟩ ⟨@bnd2 R (retok s (killAll σ ids) v) ⟨k⟩⟩⟩⟩) := by
  subst hc
  subst hids
  have hr : retok s (killAll σ []) (.tup (.agg t us :: vs)) = some (.tup (.agg t us :: vs), σ) := by
    simp only [retok, hvs, if_true, retok1, hp, Option.map_some, killAll]
  show Wp P (@br R (noMem (.tup (.agg t us :: vs))) ⟨k (.tup (.agg t us :: vs)) σ⟩ ⟨@br R false ⟨none⟩ ⟨@bnd2 R (retok s (killAll σ []) (.tup (.agg t us :: vs))) ⟨k⟩⟩⟩)
  rw [hr]
  cases noMem (.tup (.agg t us :: vs))
  · exact h
  · exact h
theorem RefP.strip {r : AV} {xs : List Int} (h : RefP r xs) : Va.strip r = r := by
  rcases h with ⟨_, b, rfl⟩ | ⟨b, rfl, _⟩ <;> simp only [Va.strip]
theorem RefP.views {r : AV} {xs : List Int} (h : RefP r xs) : viewIds r = [] := by
  rcases h with ⟨_, b, rfl⟩ | ⟨b, rfl, _⟩ <;> simp only [viewIds]
theorem encS_pureA {s : Sta} {r : AV} (h : pure1 r = true) : pure1 (encS s r) = true := by
  simp only [encS, pure1, pureL, pure_W, h, Bool.and_self]
/-- What a law's walk is handed. -/
theorem RefP.noPtr {r : AV} {xs : List Int} (h : RefP r xs) (l : List AV) : Va.noPtr (r :: l) = true := by
  rcases h with ⟨_, b, rfl⟩ | ⟨b, rfl, _⟩ <;> rfl
theorem Refs_c (d : Nat) (r1 r2 : AV) (xs : List Int) (h1 : RefP r1 xs) (h2 : RefP r2 xs) (hl : xs.length ≤ 17592186044416) : evalF Try.prog CC (d + 1) 23 [r1, r2] St.empty = some (.bool true, St.empty) := by
  have l1 := fun m => h1.len m
  have l2 := fun m => h2.len m
  refine wp_eq ?_
  rw [run_23 _ _ _ (by simp)]; unfold Try.f23; simp only [Option.getD_some]
  simp only [go_sem, l1, l2]
  refine W.iter_rule (fun i ρ s => ρ 0 = r1 ∧ ρ 1 = r2 ∧ ρ 5 = .int .i64 i) xs.length ?_ ?_ _ 0 _ _ (Nat.zero_le _) ?_ ?_
  · rintro i ρ s hi ⟨h0, h1', h5⟩ K' hK hx hr
    have hlt : (i : Int) < (xs.length : Int) := by omega
    have hwrap : IntKind.i64.wrap ((i : Int) + 1) = ((i + 1 : Nat) : Int) := by rw [IntKind.wrap_i64]; omega
    have i1 := h1.idx hi
    have i2 := h2.idx hi
    generalize xs[i] = u at i1 i2
    simp only [go_sem, h0, h1', h5, l1, l2, hlt]
    refine W.br_ok (by kernel_rfl) ?_
    simp only [go_sem, h0, h1', h5, l1, l2, hlt, i1, i2, hwrap]
    refine hK _ _ ?_
    exact ⟨by (try simp only [go_sem, Int.toNat_natCast, List.length_take, *]) <;> first | done | rfl | omega | (simp <;> omega), by (try simp only [go_sem, Int.toNat_natCast, List.length_take, *]) <;> first | done | rfl | omega | (simp <;> omega), by (try simp only [go_sem, Int.toNat_natCast, List.length_take, *]) <;> first | done | rfl | omega | (simp <;> omega)⟩
  · rintro ρ s ⟨h0, h1', h5⟩ K' hx hr
    have hlt : ¬ (xs.length : Int) < (xs.length : Int) := by omega
    simp only [go_sem, hx, h0, h1', h5, l1, l2, hlt]
    rfl
  · show xs.length < 0 + 9223372036854775900
    omega
  · exact ⟨by (try simp only [go_sem, Int.toNat_natCast, List.length_take, *]) <;> first | done | rfl | omega | (simp <;> omega), by (try simp only [go_sem, Int.toNat_natCast, List.length_take, *]) <;> first | done | rfl | omega | (simp <;> omega), by (try simp only [go_sem, Int.toNat_natCast, List.length_take, *]) <;> first | done | rfl | omega | (simp <;> omega)⟩
set_option maxHeartbeats 8000000 in
theorem Same_c (d : Nat) (t : Sta) (r1 r2 : AV) (h1 : RefP r1 t.refs) (h2 : RefP r2 t.refs) (ho : SOk t) (hl : t.refs.length ≤ 17592186044416) : evalF Try.prog CC (d + 2) 15 [encS t r1, encS t r2] St.empty = some (.bool true, St.empty) := by
  have hR := fun d => Refs_c d r1 r2 t.refs h1 h2 hl
  have z1 := fun σ => h1.fz σ
  have z2 := fun σ => h2.fz σ
  have s1 := h1.strip
  have s2 := h2.strip
  have v1 := h1.views
  have np := h1.noPtr
  have v2 := h2.views
  refine wp_eq ?_
  rw [run_15 _ _ _ (by simp)]; unfold Try.f15; simp only [Option.getD_some]
  simp only [go_sem, *]
  refine W.iter_rule (fun i ρ s' => ρ 2 = .ptr 43 0 [0] ∧ ρ 3 = .ptr 43 1 [0] ∧ ρ 5 = .int .i64 i ∧ s'.obj 0 = some (.cells 43 [encS t r1]) ∧ s'.obj 1 = some (.cells 43 [encS t r2])) 10 ?_ ?_ _ 0 _ _ (Nat.zero_le _) ?_ ?_
  · rintro i ρ s hi ⟨h2, h3, h5, o1, o2⟩ K' hK hx hr
    have hlt : (i : Int) < 10 := by omega
    have hwrap : IntKind.i64.wrap ((i : Int) + 1) = ((i + 1 : Nat) : Int) := by rw [IntKind.wrap_i64]; omega
    have hix := fun a => ix_reg a [0, 0] i hi
    simp only [List.cons_append, List.nil_append] at hix
    obtain ⟨w, hw⟩ : ∃ w, t.regs[i]? = some w := ⟨_, List.getElem?_eq_getElem (by rw [ho.1]; exact hi)⟩
    have hg : (t.regs.map encW)[i]? = some (encW w) := by rw [List.getElem?_map, hw]; rfl
    have o1' := o1
    have o2' := o2
    simp only [encS] at o1' o2'
    simp only [encW] at hg
    simp only [go_sem, h2, h3, h5, o1', o2', hlt]
    refine W.br_ok (by kernel_rfl) ?_
    simp only [go_sem, h2, h3, h5, o1', o2', hlt, hix, hg, hwrap, beq_self_eq_true]
    refine hK _ _ ?_
    exact ⟨by (try simp only [go_sem, Int.toNat_natCast, List.length_take, *]) <;> first | done | rfl | omega | (simp <;> omega), by (try simp only [go_sem, Int.toNat_natCast, List.length_take, *]) <;> first | done | rfl | omega | (simp <;> omega), by (try simp only [go_sem, Int.toNat_natCast, List.length_take, *]) <;> first | done | rfl | omega | (simp <;> omega), o1, o2⟩
  · rintro ρ s ⟨h2, h3, h5, o1, o2⟩ K' hx hr
    have hlt : ¬ ((10 : Nat) : Int) < 10 := by omega
    simp only [go_sem, hx, h2, h3, h5, hlt]
    clear hx hr hlt h5
    refine W.iter_rule (fun i ρ s' => ρ 2 = .ptr 43 0 [0] ∧ ρ 3 = .ptr 43 1 [0] ∧ ρ 6 = .int .i64 i ∧ s'.obj 0 = some (.cells 43 [encS t r1]) ∧ s'.obj 1 = some (.cells 43 [encS t r2])) 8 ?_ ?_ _ 0 _ _ (Nat.zero_le _) ?_ ?_
    · clear o1 o2 h2 h3
      rintro i ρ s hi ⟨h2, h3, h5, o1, o2⟩ K' hK hx hr
      have hlt : (i : Int) < 8 := by omega
      have hwrap : IntKind.i64.wrap ((i : Int) + 1) = ((i + 1 : Nat) : Int) := by rw [IntKind.wrap_i64]; omega
      have hix := fun a => ix_slot a [0, 1] i hi
      simp only [List.cons_append, List.nil_append] at hix
      obtain ⟨w, hw⟩ : ∃ w, t.slots[i]? = some w := ⟨_, List.getElem?_eq_getElem (by rw [ho.2]; exact hi)⟩
      have hg : (t.slots.map encW)[i]? = some (encW w) := by rw [List.getElem?_map, hw]; rfl
      have o1' := o1
      have o2' := o2
      simp only [encS] at o1' o2'
      simp only [encW] at hg
      simp only [go_sem, h2, h3, h5, o1', o2', hlt]
      refine W.br_ok (by kernel_rfl) ?_
      simp only [go_sem, h2, h3, h5, o1', o2', hlt, hix, hg, hwrap, beq_self_eq_true]
      refine hK _ _ ?_
      exact ⟨by (try simp only [go_sem, Int.toNat_natCast, List.length_take, *]) <;> first | done | rfl | omega | (simp <;> omega), by (try simp only [go_sem, Int.toNat_natCast, List.length_take, *]) <;> first | done | rfl | omega | (simp <;> omega), by (try simp only [go_sem, Int.toNat_natCast, List.length_take, *]) <;> first | done | rfl | omega | (simp <;> omega), o1, o2⟩
    · clear o1 o2 h2 h3
      rintro ρ s ⟨h2, h3, h5, o1, o2⟩ K' hx hr
      have hlt : ¬ ((8 : Nat) : Int) < 8 := by omega
      simp only [encS] at o1 o2
      simp only [go_sem, hx, h2, h3, h5, hlt, o1, o2, np, z1, z2, s1, s2, v1, v2, hR, List.append_nil, beq_self_eq_true]
      rw [callVal_go2 _ _ _ _ _ _ _ (np _)]
      simp only [go_sem, hx, h2, h3, h5, hlt, o1, o2, np, z1, z2, s1, s2, v1, v2, hR, List.append_nil, beq_self_eq_true]
      rfl
    · show 8 < 0 + 9223372036854775900
      omega
    · exact ⟨by (try simp only [go_sem, Int.toNat_natCast, List.length_take, *]) <;> first | done | rfl | omega | (simp <;> omega), by (try simp only [go_sem, Int.toNat_natCast, List.length_take, *]) <;> first | done | rfl | omega | (simp <;> omega), by (try simp only [go_sem, Int.toNat_natCast, List.length_take, *]) <;> first | done | rfl | omega | (simp <;> omega), o1, o2⟩
  · show 10 < 0 + 9223372036854775900
    omega
  · exact ⟨by (try simp only [go_sem, Int.toNat_natCast, List.length_take, *]) <;> first | done | rfl | omega | (simp <;> omega), by (try simp only [go_sem, Int.toNat_natCast, List.length_take, *]) <;> first | done | rfl | omega | (simp <;> omega), by (try simp only [go_sem, Int.toNat_natCast, List.length_take, *]) <;> first | done | rfl | omega | (simp <;> omega), by rfl, by rfl⟩
end Go.Proofs.Yticlihmbikcohaa.Va

/- chapter 19: what may be, what is joined, what is split -/
namespace Go.Proofs.Yticlihmbikcohaa.Va
open Go
set_option linter.unusedVariables false
set_option linter.unusedSimpArgs false
set_option maxRecDepth 100000
def noneW (w : Wht) : Bool := decide (w.type = 0) && (decide (w.id = 0) && (decide (w.link = 0) && w.maybe == false))
def plainW (w : Wht) : Bool := decide (w.type = 0) && (decide (w.id = 0) && (decide (w.link = 0) && (w.maybe == false && (decide (w.lo = 0) && decide (w.hi = 0)))))
def flatW (w : Wht) : Bool := decide (0 = w.lo) && decide (0 = w.hi)
def mayS (w : Wht) : Bool :=
  if w.kind = 0 then plainW w else if w.kind = 2 then plainW w
  else if w.kind = 1 then (if w.lo ≤ w.hi then noneW w else false)
  else if 3 ≤ w.kind ∧ w.kind ≤ 6 then
    if flatW w = true then
      if w.type < 0 then false
      else if w.kind = 4 then (if w.id ≥ 1 then decide (w.link ≥ 0) else false)
      else if w.kind = 6 then (if w.id = 0 then decide (w.link = 0) else false)
      else if w.id ≥ 1 then decide (w.link = 0) else false
    else false
  else false
theorem may_c (d : Nat) (w : Wht) : evalF Try.prog CC (d + 2) 20 [encW w] St.empty = some (.bool (mayS w), St.empty) := by
  have hs := fun d => spanMay_c d w.lo w.hi
  have hp := fun d => pointer_k d w.kind
  refine wp_eq ?_
  rw [run_20 _ _ _ (by simp)]; unfold Try.f20; simp only [Option.getD_some]
  simp only [go_sem, *]
  by_cases h0 : w.kind = 0
  · have e : mayS w = plainW w := by unfold mayS; rw [if_pos h0]
    rw [e]
    simp only [go_sem, h0]
    rfl
  by_cases h2 : w.kind = 2
  · have e : mayS w = plainW w := by unfold mayS; rw [if_neg h0, if_pos h2]
    rw [e]
    simp only [go_sem, h0, h2]
    rfl
  by_cases h1 : w.kind = 1
  · by_cases hle : w.lo ≤ w.hi
    · have e : mayS w = noneW w := by unfold mayS; rw [if_neg h0, if_neg h2, if_pos h1, if_pos hle]
      rw [e]
      simp only [go_sem, h0, h1, h2, hs, hle]
      rfl
    · have e : mayS w = false := by unfold mayS; rw [if_neg h0, if_neg h2, if_pos h1, if_neg hle]
      rw [e]
      simp only [go_sem, h0, h1, h2, hs, hle]
      rfl
  by_cases hp3 : 3 ≤ w.kind ∧ w.kind ≤ 6
  case neg =>
    have hp3' := eq_false hp3
    have e : mayS w = false := by unfold mayS; rw [if_neg h0, if_neg h2, if_neg h1, if_neg hp3]
    rw [e]
    simp only [go_sem, h0, h1, h2, hp, hp3']
    rfl
  have hp3' := eq_true hp3
  obtain ⟨q1, hq1⟩ : ∃ q, decide (0 = w.lo) = q := ⟨_, rfl⟩
  obtain ⟨q2, hq2⟩ : ∃ q, decide (0 = w.hi) = q := ⟨_, rfl⟩
  have hfl : flatW w = (q1 && q2) := by unfold flatW; rw [hq1, hq2]
  have e : mayS w = if (q1 && q2) = true then (if w.type < 0 then false else if w.kind = 4 then (if w.id ≥ 1 then decide (w.link ≥ 0) else false) else if w.kind = 6 then (if w.id = 0 then decide (w.link = 0) else false) else if w.id ≥ 1 then decide (w.link = 0) else false) else false := by
    unfold mayS; rw [if_neg h0, if_neg h2, if_neg h1, if_pos hp3, hfl]
  rw [e]
  by_cases hqq : q1 = true ∧ q2 = true
  case neg =>
    cases q1 <;> cases q2 <;> first | exact absurd ⟨rfl, rfl⟩ hqq | skip
    all_goals
      simp only [go_sem, h0, h1, h2, hp, hp3', hq1, hq2]
      rfl
  obtain ⟨rfl, rfl⟩ := hqq
  rw [if_pos (by rfl)]
  by_cases ht : w.type < 0
  · rw [if_pos ht]
    simp only [go_sem, h0, h1, h2, hp, hp3', hq1, hq2, ht]
    rfl
  rw [if_neg ht]
  by_cases h4 : w.kind = 4
  · have h4' := eq_true h4
    rw [if_pos h4]
    by_cases hid : w.id ≥ 1
    · rw [if_pos hid]
      simp only [go_sem, h0, h1, h2, hp, hp3', hq1, hq2, ht, h4', hid]
      rfl
    · rw [if_neg hid]
      simp only [go_sem, h0, h1, h2, hp, hp3', hq1, hq2, ht, h4', hid]
      rfl
  rw [if_neg h4]
  by_cases h6 : w.kind = 6
  · have h6' := eq_true h6
    rw [if_pos h6]
    by_cases hid : w.id = 0
    · rw [if_pos hid]
      simp only [go_sem, h0, h1, h2, hp, hp3', hq1, hq2, ht, h4, h6', hid]
      rfl
    · rw [if_neg hid]
      simp only [go_sem, h0, h1, h2, hp, hp3', hq1, hq2, ht, h4, h6', hid]
      rfl
  rw [if_neg h6]
  by_cases hid : w.id ≥ 1
  · rw [if_pos hid]
    simp only [go_sem, h0, h1, h2, hp, hp3', hq1, hq2, ht, h4, h6, hid]
    rfl
  · rw [if_neg hid]
    simp only [go_sem, h0, h1, h2, hp, hp3', hq1, hq2, ht, h4, h6, hid]
    rfl
def mbW (w : Wht) : Wht := { w with maybe := true }
theorem maybe_c (d : Nat) (w : Wht) : evalF Try.prog CC (d + 1) 65 [encW w] St.empty = some (encW (mbW w), St.empty) := by
  refine wp_eq ?_
  rw [run_65 _ _ _ (by simp)]; unfold Try.f65; simp only [Option.getD_some]
  simp only [go_sem, *]
  rfl
def aloneS (k : Int) : Bool := decide (k = 4 ∨ k = 6)
theorem alone_c (d : Nat) (k : Int) : evalF Try.prog CC (d + 1) 66 [.int .i64 k] St.empty = some (.bool (aloneS k), St.empty) := by
  refine wp_eq ?_
  rw [run_66 _ _ _ (by simp)]; unfold Try.f66; simp only [Option.getD_some]
  unfold aloneS
  by_cases h : k = 4
  · subst h
    simp only [go_sem, *]
    rfl
  · simp only [go_sem, h, false_or]
    rfl
def joinP (a b c e : Int) : Int × Int := if a ≤ b ∧ c ≤ e then (min a c, max b e) else (0, 0)
def joinE (a b c e : Int) : Int := if a ≤ b ∧ c ≤ e then 0 else 1
theorem spanJoin_c (d : Nat) (a b c e : Int) : evalF Try.prog CC (d + 2) 64 [.agg 36 [.int .u64 a, .int .u64 b], .agg 36 [.int .u64 c, .int .u64 e]] St.empty =
    some (.tup [.agg 36 [.int .u64 (joinP a b c e).1, .int .u64 (joinP a b c e).2], .int .i64 (joinE a b c e)], St.empty) := by
  have h1 := fun d => spanMay_c d a b
  have h2 := fun d => spanMay_c d c e
  refine wp_eq ?_
  rw [run_64 _ _ _ (by simp)]; unfold Try.f64; simp only [Option.getD_some]
  unfold joinP joinE
  by_cases k1 : a ≤ b
  case neg =>
    simp only [go_sem, h1, h2, k1, false_and, if_false, ite_false]
    rfl
  by_cases k2 : c ≤ e
  case neg =>
    simp only [go_sem, h1, h2, k1, k2, and_false, if_false, ite_false]
    rfl
  simp only [go_sem, h1, h2, k1, k2, and_self, if_true, ite_true]
  rfl
def joinS (v w : Wht) : Wht :=
  if mayS v = true then
    if mayS w = true then
      if v = w then v
      else if v.kind = 1 ∧ w.kind = 1 then { v with lo := (joinP v.lo v.hi w.lo w.hi).1, hi := (joinP v.lo v.hi w.lo w.hi).2 }
      else if (3 ≤ v.kind ∧ v.kind ≤ 6) ∧ mbW v = mbW w then mbW v
      else if aloneS v.kind = true ∧ w.kind = 2 then mbW v
      else if aloneS w.kind = true ∧ v.kind = 2 then mbW w
      else junk
    else junk
  else junk
theorem join_c (d : Nat) (v w : Wht) : evalF Try.prog CC (d + 3) 46 [encW v, encW w] St.empty = some (encW (joinS v w), St.empty) := by
  have m1 := fun d => may_c d v
  have m2 := fun d => may_c d w
  have n1 := fun d => maybe_c d v
  have n2 := fun d => maybe_c d w
  have p1 := fun d => pointer_k d v.kind
  have a1 := fun d => alone_c d v.kind
  have a2 := fun d => alone_c d w.kind
  have j1 := fun d => spanJoin_c d v.lo v.hi w.lo w.hi
  simp only [encW] at m1 m2 n1 n2
  refine wp_eq ?_
  unfold joinS
  rw [run_46 _ _ _ (by simp)]; unfold Try.f46; simp only [Option.getD_some]
  generalize mayS v = b1 at m1 ⊢
  generalize mayS w = b2 at m2 ⊢
  cases b1
  · simp only [go_sem, m1, if_false, ite_false, Bool.false_eq_true]
    rfl
  cases b2
  · simp only [go_sem, m1, m2, if_false, ite_false, Bool.false_eq_true, if_true, ite_true]
    rfl
  simp only [go_sem, m1, m2, if_false, ite_false, Bool.false_eq_true, if_true, ite_true]
  by_cases hvw : v = w
  · subst hvw
    simp only [go_sem, m1, m2, if_true, ite_true, beq_self_eq_true]
    rfl
  have hc := comp_W v w hvw
  rw [if_neg hvw]
  simp only [go_sem, hc]
  by_cases h1 : v.kind = 1
  · by_cases h1' : w.kind = 1
    · rw [if_pos ⟨h1, h1'⟩]
      simp only [go_sem, h1, h1', j1]
      rfl
    · rw [if_neg (fun h => h1' h.2), if_neg (fun h => by omega), if_neg (fun h => by simp [aloneS, h1] at h), if_neg (fun h => by omega)]
      simp only [go_sem, h1, h1']
      refine W.br_ok (by kernel_rfl) ?_
      have p1' : ∀ d, evalF Try.prog CC (d + 1) 31 [.int .i64 1] St.empty = some (.bool false, St.empty) := fun d => by rw [pointer_k]; rfl
      have a1' : ∀ d, evalF Try.prog CC (d + 1) 66 [.int .i64 1] St.empty = some (.bool false, St.empty) := fun d => by rw [alone_c]; rfl
      generalize aloneS w.kind = q at a2
      cases q
      · simp only [go_sem, h1, h1', p1', a1', a2]
        rfl
      · simp only [go_sem, h1, h1', p1', a1', a2]
        rfl
  · rw [if_neg (fun h => h1 h.1)]
    simp only [go_sem, h1]
    refine W.br_ok (by kernel_rfl) ?_
    have hk : ∀ {b : Bool} {x : Wht}, (∀ d, evalF Try.prog CC (d + 1) 66 [.int .i64 x.kind] St.empty = some (.bool b, St.empty)) → b = aloneS x.kind := fun {b x} h => by
      have := (h 0).symm.trans (alone_c 0 x.kind); simp at this; exact this
    by_cases hp : 3 ≤ v.kind ∧ v.kind ≤ 6
    · have hp' := eq_true hp
      by_cases hm : mbW v = mbW w
      · rw [if_pos ⟨hp, hm⟩]
        simp only [go_sem, p1, hp', n1, n2, ← hm, beq_self_eq_true]
        rfl
      · rw [if_neg (fun h => hm h.2)]
        have hcm := comp_W (mbW v) (mbW w) hm
        simp only [go_sem, p1, hp', n1, n2, hcm]
        have e4 : ¬ (aloneS w.kind = true ∧ v.kind = 2) := fun h => by omega
        rw [if_neg e4]
        have h2 : ¬ v.kind = 2 := by omega
        by_cases ha : aloneS v.kind = true
        · by_cases hw : w.kind = 2
          · rw [if_pos ⟨ha, hw⟩]
            simp only [go_sem, a1, ha, hw, n1]
            rfl
          · rw [if_neg (fun h => hw h.2)]
            generalize aloneS w.kind = q at a2
            cases q
            · simp only [go_sem, a1, ha, hw, a2]
              rfl
            · simp only [go_sem, a1, ha, hw, a2, h2]
              rfl
        · have ha' : aloneS v.kind = false := by simpa using ha
          rw [if_neg (fun h => ha h.1)]
          generalize aloneS w.kind = q at a2
          cases q
          · simp only [go_sem, a1, ha', a2]
            rfl
          · simp only [go_sem, a1, ha', a2, h2]
            rfl
    · have hp' := eq_false hp
      rw [if_neg (fun h => hp h.1)]
      have ha' : aloneS v.kind = false := by
        unfold aloneS
        rw [decide_eq_false_iff_not]
        omega
      rw [if_neg (fun h => by rw [ha'] at h; exact Bool.noConfusion h.1)]
      simp only [go_sem, p1, hp', a1, ha']
      by_cases hw : aloneS w.kind = true
      · by_cases h2 : v.kind = 2
        · rw [if_pos ⟨hw, h2⟩]
          simp only [go_sem, a2, hw, h2, n2]
          rfl
        · rw [if_neg (fun h => h2 h.2)]
          simp only [go_sem, a2, hw, h2]
          rfl
      · have hw' : aloneS w.kind = false := by simpa using hw
        rw [if_neg (fun h => hw h.1)]
        simp only [go_sem, a2, hw']
        rfl
end Go.Proofs.Yticlihmbikcohaa.Va

/- chapter 19: instructions, and where they lead -/
namespace Go.Proofs.Yticlihmbikcohaa.Va
open Go
set_option linter.unusedVariables false
set_option linter.unusedSimpArgs false
set_option maxRecDepth 100000
structure Ins where
  op : Int
  a : Int
  b : Int
  c : Int
  imm : Int
  deriving DecidableEq
instance : Inhabited Ins := ⟨⟨0, 0, 0, 0, 0⟩⟩
def encI (i : Ins) : AV := .agg 28 [.int .u8 i.op, .int .u8 i.a, .int .u8 i.b, .int .u8 i.c, .int .u32 i.imm]
structure Bnd where
  a : Int
  b : Int
  c : Int
  least : Int
  most : Int
instance : Inhabited Bnd := ⟨⟨0, 0, 0, 0, 0⟩⟩
def encB (x : Bnd) : AV := .agg 91 [.int .u32 x.a, .int .u32 x.b, .int .u32 x.c, .int .u32 x.least, .int .u32 x.most]
attribute [go_sem] encI encB
def tblS : List Bnd := [⟨0, 0, 0, 0, 0⟩, ⟨9, 9, 0, 0, 0⟩, ⟨9, 0, 0, 0, 4294967295⟩, ⟨9, 9, 11, 0, 0⟩, ⟨9, 0, 11, 0, 4294967295⟩, ⟨0, 0, 0, 1, 127⟩, ⟨9, 9, 9, 1, 127⟩, ⟨9, 255, 9, 1, 127⟩, ⟨9, 0, 7, 0, 0⟩, ⟨9, 0, 7, 0, 0⟩, ⟨9, 9, 11, 0, 4294967295⟩, ⟨9, 9, 11, 0, 9⟩, ⟨9, 9, 11, 0, 4294967295⟩, ⟨9, 9, 11, 0, 9⟩, ⟨0, 0, 22, 0, 4294967295⟩, ⟨0, 0, 0, 0, 0⟩]
def opOk (op : Int) : Bool := decide (1 ≤ op ∧ op ≤ 15)
def rowS (op : Int) : Bnd := if 1 ≤ op ∧ op ≤ 15 then at0 tblS op else ⟨0, 0, 0, 0, 0⟩
theorem row_lit (d : Nat) (op : Int) (hb : op = 1 ∨ op = 2 ∨ op = 3 ∨ op = 4 ∨ op = 5 ∨ op = 6 ∨ op = 7 ∨ op = 8 ∨ op = 9 ∨ op = 10 ∨ op = 11 ∨ op = 12 ∨ op = 13 ∨ op = 14 ∨ op = 15) : evalF Try.prog CC (d + 1) 32 [.int .u8 op] St.empty = some (.tup [encB (rowS op), .bool (opOk op)], St.empty) := by
  rcases hb with rfl | rfl | rfl | rfl | rfl | rfl | rfl | rfl | rfl | rfl | rfl | rfl | rfl | rfl | rfl <;> kernel_rfl
theorem row_c (d : Nat) (op : Int) : evalF Try.prog CC (d + 1) 32 [.int .u8 op] St.empty = some (.tup [encB (rowS op), .bool (opOk op)], St.empty) := by
  by_cases hr : 1 ≤ op ∧ op ≤ 15
  · refine row_lit d op ?_
    omega
  refine wp_eq ?_
  rw [run_32 _ _ _ (by simp)]; unfold Try.f32; simp only [Option.getD_some]
  unfold rowS opOk
  simp only [go_sem, *]
  by_cases h1 : op < 1
  · have h : (1 ≤ op ∧ op ≤ 15) = False := eq_false (by omega)
    simp only [go_sem, h1, h, if_false, ite_false]
    rfl
  by_cases h2 : op > 15
  · have h : (1 ≤ op ∧ op ≤ 15) = False := eq_false (by omega)
    simp only [go_sem, h1, h2, h, if_false, ite_false]
    rfl
  exact absurd ⟨by omega, by omega⟩ hr
theorem out_c (d : Nat) (x y : Int) : evalF Try.prog CC (d + 1) 33 [.int .u32 x, .int .u32 y] St.empty = some (.bool (decide (x > y) && decide (y > 0)), St.empty) := by
  refine wp_eq ?_
  rw [run_33 _ _ _ (by simp)]; unfold Try.f33; simp only [Option.getD_some]
  by_cases h1 : x > y
  · have h1' := eq_true h1
    simp only [go_sem, h1']
    rfl
  · have h1' := eq_false h1
    simp only [go_sem, h1']
    rfl
def wordy (op : Int) : Prop := op = 3 ∨ op = 4 ∨ op = 6 ∨ op = 7 ∨ op = 14
instance (op : Int) : Decidable (wordy op) := by unfold wordy; infer_instance
theorem words_c (d : Nat) (op : Int) (hw : wordy op) : ∃ xs σ', evalF Try.prog CC (d + 1) 34 [.int .u8 op] St.empty = some (.list 9 false xs (some 0), σ') := by
  unfold wordy at hw
  rcases hw with rfl | rfl | rfl | rfl | rfl
  all_goals
    apply Exists.intro
    apply Exists.intro
    apply wp_eq
    rw [run_34 _ _ _ (by simp)]; unfold Try.f34; simp only [Option.getD_some]
    simp only [go_sem, *]
    rfl
theorem words_n (d : Nat) (op : Int) (hw : ¬ wordy op) : evalF Try.prog CC (d + 1) 34 [.int .u8 op] St.empty = some (.mt true, St.empty) := by
  unfold wordy at hw
  have h3 := eq_false (show ¬ op = 3 by omega)
  have h4 := eq_false (show ¬ op = 4 by omega)
  have h6 := eq_false (show ¬ op = 6 by omega)
  have h7 := eq_false (show ¬ op = 7 by omega)
  have h14 := eq_false (show ¬ op = 14 by omega)
  refine wp_eq ?_
  rw [run_34 _ _ _ (by simp)]; unfold Try.f34; simp only [Option.getD_some]
  simp only [go_sem, h3, h4, h6, h7, h14]
  rfl
def outB (x y : Int) : Bool := decide (x > y) && decide (y > 0)
def badS (i : Ins) (r : Bnd) : Bool :=
  outB (IntKind.u32.wrap i.a) r.a || (outB (IntKind.u32.wrap i.b) r.b || (outB (IntKind.u32.wrap i.c) r.c || ((decide (wordy i.op) && decide (i.c = 0)) || (decide (r.most > 0) && (decide (i.imm < r.least) || decide (i.imm > r.most))))))
def restS (i : Ins) (r : Bnd) : Bool :=
  (decide (r.a = 0) && decide (i.a > 0)) || ((decide (r.b = 0) && decide (i.b > 0)) || ((decide (r.c = 0) && decide (i.c > 0)) || (decide (r.most = 0) && decide (i.imm > 0))))
def chkS (i : Ins) : Int := if opOk i.op = false then 3 else if badS i (rowS i.op) = true then 4 else if restS i (rowS i.op) = true then 1 else 0
set_option maxHeartbeats 6000000 in
theorem icheck_c (d : Nat) (i : Ins) : evalF Try.prog CC (d + 3) 21 [encI i] St.empty = some (.int .i64 (chkS i), St.empty) := by
  have p1 := fun d => row_c d i.op
  have p2 : ∀ d x y, evalF Try.prog CC (d + 1) 33 [.int .u32 x, .int .u32 y] St.empty = some (.bool (outB x y), St.empty) := out_c
  refine wp_eq ?_
  rw [run_21 _ _ _ (by simp)]; unfold Try.f21; simp only [Option.getD_some]
  unfold chkS
  cases ho : opOk i.op
  · rw [ho] at p1
    simp only [go_sem, p1]
    rfl
  rw [ho] at p1
  by_cases hw : wordy i.op
  · obtain ⟨xs, σ', p3⟩ := words_c (d + 1) i.op hw
    generalize rowS i.op = r at p1 ⊢
    have hwd : decide (wordy i.op) = true := decide_eq_true hw
    cases h1 : outB (IntKind.u32.wrap i.a) r.a
    case true =>
      rw [if_neg (by simp), if_pos (show badS i r = true by simp [badS, h1])]
      simp only [go_sem, p1, p2, p3, h1]
      rfl
    cases h2 : outB (IntKind.u32.wrap i.b) r.b
    case true =>
      rw [if_neg (by simp), if_pos (show badS i r = true by simp [badS, h2])]
      simp only [go_sem, p1, p2, p3, h1, h2]
      rfl
    cases h3 : outB (IntKind.u32.wrap i.c) r.c
    case true =>
      rw [if_neg (by simp), if_pos (show badS i r = true by simp [badS, h3])]
      simp only [go_sem, p1, p2, p3, h1, h2, h3]
      rfl
    by_cases h4 : i.c = 0
    · have h4' := eq_true h4
      rw [if_neg (by simp), if_pos (show badS i r = true by simp [badS, h4, hw])]
      simp only [go_sem, p1, p2, p3, h1, h2, h3, h4']
      rfl
    have h4' := eq_false h4
    have h5 : (decide (wordy i.op) && decide (i.c = 0)) = false := by simp [h4]
    simp only [go_sem, p1, p2, p3, h1, h2, h3, h4']
    clear p1 p2 p3
    by_cases h6 : r.most > 0
    · by_cases h7 : i.imm < r.least
      · have h7' := eq_true h7
        rw [if_pos (show badS i r = true by simp [badS, h6, h7])]
        simp only [go_sem, eq_true h6, h7']
        rfl
      by_cases h8 : i.imm > r.most
      · have h7' := eq_false h7
        have h8' := eq_true h8
        rw [if_pos (show badS i r = true by simp [badS, h6, h8])]
        simp only [go_sem, eq_true h6, h7', h8']
        rfl
      have hb : badS i r = false := by simp [badS, h1, h2, h3, h5, h6, h7, h8]
      have hm : decide (r.most = 0) = false := by simp; omega
      rw [if_neg (show ¬ badS i r = true by simp [hb])]
      have h7' := eq_false h7
      have h8' := eq_false h8
      simp only [go_sem, eq_true h6, h7', h8']
      clear h1 h2 h3 h5 h7 h8 h7' h8' hb
      generalize hq : restS i r = q
      repeat' (first | refine W.idx_at (by omega) (by omega) ?_; simp only [go_sem, *] | refine W.br_idx (by omega) (by omega) ?_; try simp only [go_sem, *] | refine W.bnd_at (by omega) (by omega) ?_; simp only [go_sem, *] | refine W.br_dec (fun h => ?_) (fun h => ?_) <;> simp only [go_sem, *] | refine W.want_dect (fun h => ?_) (fun h => ?_) <;> simp only [go_sem, *] | refine W.want_decf (fun h => ?_) (fun h => ?_) <;> simp only [go_sem, *] | refine W.br_ndec (fun h => ?_) (fun h => ?_) <;> simp only [go_sem, *] | refine W.want_ndect (fun h => ?_) (fun h => ?_) <;> simp only [go_sem, *] | refine W.want_ndecf (fun h => ?_) (fun h => ?_) <;> simp only [go_sem, *] | refine W.br_split (fun h => ?_) (fun h => ?_) <;> simp only [go_sem, *] | refine W.want_split (fun h => ?_) (fun h => ?_) <;> simp only [go_sem, *])
      all_goals (refine congrArg some ?_; subst hq; simp [restS, hm, *]; done)
    · have hb : badS i r = false := by simp [badS, h1, h2, h3, h5, h6]
      rw [if_neg (show ¬ badS i r = true by simp [hb])]
      simp only [go_sem, eq_false h6]
      clear h1 h2 h3 h5 hb
      generalize hq : restS i r = q
      repeat' (first | refine W.idx_at (by omega) (by omega) ?_; simp only [go_sem, *] | refine W.br_idx (by omega) (by omega) ?_; try simp only [go_sem, *] | refine W.bnd_at (by omega) (by omega) ?_; simp only [go_sem, *] | refine W.br_dec (fun h => ?_) (fun h => ?_) <;> simp only [go_sem, *] | refine W.want_dect (fun h => ?_) (fun h => ?_) <;> simp only [go_sem, *] | refine W.want_decf (fun h => ?_) (fun h => ?_) <;> simp only [go_sem, *] | refine W.br_ndec (fun h => ?_) (fun h => ?_) <;> simp only [go_sem, *] | refine W.want_ndect (fun h => ?_) (fun h => ?_) <;> simp only [go_sem, *] | refine W.want_ndecf (fun h => ?_) (fun h => ?_) <;> simp only [go_sem, *] | refine W.br_split (fun h => ?_) (fun h => ?_) <;> simp only [go_sem, *] | refine W.want_split (fun h => ?_) (fun h => ?_) <;> simp only [go_sem, *])
      all_goals (refine congrArg some ?_; subst hq; simp [restS, *]; done)
  · have p3 := fun d => words_n d i.op hw
    generalize rowS i.op = r at p1 ⊢
    cases h1 : outB (IntKind.u32.wrap i.a) r.a
    case true =>
      rw [if_neg (by simp), if_pos (show badS i r = true by simp [badS, h1])]
      simp only [go_sem, p1, p2, p3, h1]
      rfl
    cases h2 : outB (IntKind.u32.wrap i.b) r.b
    case true =>
      rw [if_neg (by simp), if_pos (show badS i r = true by simp [badS, h2])]
      simp only [go_sem, p1, p2, p3, h1, h2]
      rfl
    cases h3 : outB (IntKind.u32.wrap i.c) r.c
    case true =>
      rw [if_neg (by simp), if_pos (show badS i r = true by simp [badS, h3])]
      simp only [go_sem, p1, p2, p3, h1, h2, h3]
      rfl
    have h5 : (decide (wordy i.op) && decide (i.c = 0)) = false := by simp [hw]
    simp only [go_sem, p1, p2, p3, h1, h2, h3]
    clear p1 p2 p3
    by_cases h6 : r.most > 0
    · by_cases h7 : i.imm < r.least
      · have h7' := eq_true h7
        rw [if_pos (show badS i r = true by simp [badS, h6, h7])]
        simp only [go_sem, eq_true h6, h7']
        rfl
      by_cases h8 : i.imm > r.most
      · have h7' := eq_false h7
        have h8' := eq_true h8
        rw [if_pos (show badS i r = true by simp [badS, h6, h8])]
        simp only [go_sem, eq_true h6, h7', h8']
        rfl
      have hb : badS i r = false := by simp [badS, h1, h2, h3, h5, h6, h7, h8]
      have hm : decide (r.most = 0) = false := by simp; omega
      rw [if_neg (show ¬ badS i r = true by simp [hb])]
      have h7' := eq_false h7
      have h8' := eq_false h8
      simp only [go_sem, eq_true h6, h7', h8']
      clear h1 h2 h3 h5 h7 h8 h7' h8' hb
      generalize hq : restS i r = q
      repeat' (first | refine W.idx_at (by omega) (by omega) ?_; simp only [go_sem, *] | refine W.br_idx (by omega) (by omega) ?_; try simp only [go_sem, *] | refine W.bnd_at (by omega) (by omega) ?_; simp only [go_sem, *] | refine W.br_dec (fun h => ?_) (fun h => ?_) <;> simp only [go_sem, *] | refine W.want_dect (fun h => ?_) (fun h => ?_) <;> simp only [go_sem, *] | refine W.want_decf (fun h => ?_) (fun h => ?_) <;> simp only [go_sem, *] | refine W.br_ndec (fun h => ?_) (fun h => ?_) <;> simp only [go_sem, *] | refine W.want_ndect (fun h => ?_) (fun h => ?_) <;> simp only [go_sem, *] | refine W.want_ndecf (fun h => ?_) (fun h => ?_) <;> simp only [go_sem, *] | refine W.br_split (fun h => ?_) (fun h => ?_) <;> simp only [go_sem, *] | refine W.want_split (fun h => ?_) (fun h => ?_) <;> simp only [go_sem, *])
      all_goals (refine congrArg some ?_; subst hq; simp [restS, hm, *]; done)
    · have hb : badS i r = false := by simp [badS, h1, h2, h3, h5, h6]
      rw [if_neg (show ¬ badS i r = true by simp [hb])]
      simp only [go_sem, eq_false h6]
      clear h1 h2 h3 h5 hb
      generalize hq : restS i r = q
      repeat' (first | refine W.idx_at (by omega) (by omega) ?_; simp only [go_sem, *] | refine W.br_idx (by omega) (by omega) ?_; try simp only [go_sem, *] | refine W.bnd_at (by omega) (by omega) ?_; simp only [go_sem, *] | refine W.br_dec (fun h => ?_) (fun h => ?_) <;> simp only [go_sem, *] | refine W.want_dect (fun h => ?_) (fun h => ?_) <;> simp only [go_sem, *] | refine W.want_decf (fun h => ?_) (fun h => ?_) <;> simp only [go_sem, *] | refine W.br_ndec (fun h => ?_) (fun h => ?_) <;> simp only [go_sem, *] | refine W.want_ndect (fun h => ?_) (fun h => ?_) <;> simp only [go_sem, *] | refine W.want_ndecf (fun h => ?_) (fun h => ?_) <;> simp only [go_sem, *] | refine W.br_split (fun h => ?_) (fun h => ?_) <;> simp only [go_sem, *] | refine W.want_split (fun h => ?_) (fun h => ?_) <;> simp only [go_sem, *])
      all_goals (refine congrArg some ?_; subst hq; simp [restS, *]; done)
end Go.Proofs.Yticlihmbikcohaa.Va
