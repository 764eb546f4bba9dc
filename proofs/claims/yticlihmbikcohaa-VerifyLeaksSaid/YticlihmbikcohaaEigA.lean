/- chapter 18: what is told, states, small functions -/
import Derived.Test.YticlihmbikcohaaEigK
namespace Go.Proofs.Yticlihmbikcohaa.Va
open Go
set_option linter.unusedVariables false
set_option linter.unusedSimpArgs false
set_option maxRecDepth 100000
structure Wht where
  kind : Int
  type : Int
  id : Int
  link : Int
  maybe : Bool
  lo : Int
  hi : Int
  deriving DecidableEq
def junk : Wht := ⟨0, 0, 0, 0, false, 0, 0⟩
instance : Inhabited Wht := ⟨junk⟩
def encW (w : Wht) : AV := .agg 38 [.int .i64 w.kind, .int .i64 w.type, .int .i64 w.id, .int .i64 w.link, .bool w.maybe, .agg 36 [.int .u64 w.lo, .int .u64 w.hi]]
structure Sta where
  regs : List Wht
  slots : List Wht
  refs : List Int
  lock : Int
  sec : Bool
  next : Int
def encS (s : Sta) (r : AV) : AV := .agg 43 [.agg 39 (s.regs.map encW), .agg 40 (s.slots.map encW), r, .int .i64 s.lock, .bool s.sec, .int .i64 s.next]
/-- a row of numbers that is only looked at -/
def RefA (r : AV) (xs : List Int) : Prop := (xs = [] ∧ ∃ b, r = .mt b) ∨ ∃ b tok, r = .list 3 b (intsA xs) tok ∧ (b = true → xs = [])
structure Mp where
  hash : Bool
  len : Int
  type : Int
instance : Inhabited Mp := ⟨⟨false, 0, 0⟩⟩
def encM (m : Mp) : AV := .agg 71 [.bool m.hash, .int .i64 m.len, .int .i64 m.type]
/-- types and maps -/
structure Kx where
  bl : Bool
  l : List Typ
  bm : Bool
  ms0 : List Mp
  mt : Bool := false
def Kx.ms (K : Kx) : List Mp := if K.mt = true then [] else K.ms0
def mapsV (K : Kx) : AV := if K.mt = true then .mt K.bm else .list 71 K.bm (K.ms.map encM) none
theorem mapsV_or (K : Kx) : mapsV K = .list 71 K.bm (K.ms.map encM) none ∨ mapsV K = .mt K.bm ∧ K.ms = [] := by
  unfold mapsV Kx.ms
  cases K.mt
  · exact .inl (by simp)
  · exact .inr (by simp)
@[go_sem] theorem mapsV_fits (K : Kx) : fits T 54 (mapsV K) = true := by rcases mapsV_or K with h | ⟨h, _⟩ <;> rw [h] <;> kernel_rfl
@[go_sem] theorem mapsV_fz (σ : St) (K : Kx) : freeze σ (mapsV K) = some (mapsV K) := by rcases mapsV_or K with h | ⟨h, _⟩ <;> rw [h] <;> rfl
@[go_sem] theorem mapsV_strip (K : Kx) : strip (mapsV K) = mapsV K := by rcases mapsV_or K with h | ⟨h, _⟩ <;> rw [h] <;> simp only [strip]
@[go_sem] theorem mapsV_views (K : Kx) : viewIds (mapsV K) = [] := by rcases mapsV_or K with h | ⟨h, _⟩ <;> rw [h] <;> simp only [viewIds]
@[go_sem] theorem mapsV_pure (K : Kx) : pure1 (mapsV K) = true := by rcases mapsV_or K with h | ⟨h, _⟩ <;> rw [h] <;> simp only [pure1, fullT]
structure Cal where
  st : Sta
  x : Wht
  y : Wht
  n : Int
  tells : Wht
  err : Int
def encC (K : Kx) (c : Cal) (r : AV) : AV := .agg 123 [.list 52 K.bl (K.l.map encTy) none, mapsV K, encS c.st r, encW c.x, encW c.y, .int .i64 c.n, encW c.tells, .int .i64 c.err]
attribute [go_sem] encW encS encC encM
/-- The call that is looked at is the object id. -/
def At (K : Kx) (σ : St) (id : Nat) (c : Cal) : Prop := id < σ.next ∧ ∃ r, RefA r c.st.refs ∧ σ.obj id = some (.cells 123 [encC K c r])
/-- Nothing else turned. -/
def Keeps (σ σ' : St) (id : Nat) : Prop := σ.next ≤ σ'.next ∧ ∀ j, j < σ.next → j ≠ id → σ'.obj j = σ.obj j
theorem Keeps.refl (σ : St) (id : Nat) : Keeps σ σ id := ⟨Nat.le_refl _, fun _ _ _ => rfl⟩
theorem Keeps.trans {a b c : St} {id : Nat} (h : Keeps a b id) (g : Keeps b c id) : Keeps a c id := ⟨Nat.le_trans h.1 g.1, fun j hj hn => (g.2 j (Nat.lt_of_lt_of_le hj h.1) hn).trans (h.2 j hj hn)⟩
theorem Contains_c (d : Nat) (b : Bool) (ks : List Int) (k : Int) (hl : ks.length ≤ 9223372036854775807) : evalF Try.prog CC (d + 3) 87 [.list 3 b (intsA ks) none, .int .i64 k] St.empty = some (.bool (ks.contains k), St.empty) := by
  have hil : (intsA ks).length = ks.length := by simp [intsA]
  have key : Sat (fun p => p.2 = St.empty ∧ ∃ i : Int, p.1 = .int .i64 i ∧ (i ≥ 0 ↔ ks.contains k = true)) (evalF Try.prog CC (d + 2) 105 [.list 3 b (intsA ks) none, .int .i64 k] St.empty) := by
    refine Sat.go ?_
    rw [run_105 _ _ _ (by simp)]; unfold Try.f105; simp only [Option.getD_some]
    simp only [go_sem, ↓reduceIte, hil]
    refine W.iter_rule (fun i ρ σ => ρ 0 = .list 3 b (intsA ks) none ∧ ρ 1 = .int .i64 k ∧ ρ 7 = .int .i64 ks.length ∧ ρ 8 = .int .i64 i ∧ k ∉ ks.take i) ks.length ?_ ?_ _ 0 _ _ (Nat.zero_le _) ?_ ?_
    · rintro i ρ σ hi ⟨h0, h1, h7, h8, hk⟩ K hK hx hr
      have hlt : (i : Int) < (ks.length : Int) := by omega
      have hwrap : IntKind.i64.wrap ((i : Int) + 1) = ((i + 1 : Nat) : Int) := by rw [IntKind.wrap_i64]; omega
      have hidx : idxOk (i : Int) ks.length = true := by simp [idxOk]; omega
      have hget : (intsA ks)[((i : Nat) : Int).toNat]? = some (.int .i64 ks[i]) := by simp [intsA, hi]
      have hsn : ks.take (i + 1) = ks.take i ++ [ks[i]] := List.take_succ_eq_append_getElem hi
      have hmem : ks[i] ∈ ks := List.getElem_mem hi
      generalize ks[i] = q at hget hsn hmem
      simp only [go_sem, ↓reduceIte, h0, h1, h7, h8, hlt, hil, hidx, hget, hwrap]
      refine W.br_dec (fun hq => ?_) (fun hq => ?_)
      · subst hq
        simp only [go_sem, ↓reduceIte, h0, h1, h7, h8, hr]
        exact wp_some ⟨rfl, _, rfl, by simp [hmem]⟩
      · simp only [go_sem, ↓reduceIte, h0, h1, h7, h8, hr, hq, hwrap]
        refine hK _ _ ?_
        refine ⟨by (try simp only [go_sem, ↓reduceIte, Int.toNat_natCast, List.length_take, *]) <;> (first | done | rfl | omega | (simp; done) | (simp; omega)), by (try simp only [go_sem, ↓reduceIte, Int.toNat_natCast, List.length_take, *]) <;> (first | done | rfl | omega | (simp; done) | (simp; omega)), by (try simp only [go_sem, ↓reduceIte, Int.toNat_natCast, List.length_take, *]) <;> (first | done | rfl | omega | (simp; done) | (simp; omega)), by (try simp only [go_sem, ↓reduceIte, Int.toNat_natCast, List.length_take, *]) <;> (first | done | rfl | omega | (simp; done) | (simp; omega)), ?_⟩
        rw [hsn]
        simp only [List.mem_append, List.mem_singleton]
        rintro (h | h)
        · exact hk h
        · exact hq h
    · rintro ρ σ ⟨h0, h1, h7, h8, hk⟩ K hx hr
      have hlt : ¬ (ks.length : Int) < (ks.length : Int) := by omega
      rw [List.take_length] at hk
      simp only [go_sem, ↓reduceIte, hx, h0, h1, h7, h8, hlt]
      exact wp_some ⟨rfl, _, rfl, by simp [hk]⟩
    · show ks.length < 0 + 9223372036854775900
      omega
    · exact ⟨by (try simp only [go_sem, ↓reduceIte, Int.toNat_natCast, List.length_take, *]) <;> (first | done | rfl | omega | (simp; done) | (simp; omega)), by (try simp only [go_sem, ↓reduceIte, Int.toNat_natCast, List.length_take, *]) <;> (first | done | rfl | omega | (simp; done) | (simp; omega)), by (try simp only [go_sem, ↓reduceIte, Int.toNat_natCast, List.length_take, *]) <;> (first | done | rfl | omega | (simp; done) | (simp; omega)), by (try simp only [go_sem, ↓reduceIte, Int.toNat_natCast, List.length_take, *]) <;> (first | done | rfl | omega | (simp; done) | (simp; omega)), by simp⟩
  obtain ⟨⟨v, s⟩, h1, h2, i, h3, h4⟩ := key
  simp only at h2 h3
  subst h2 h3
  refine wp_eq ?_
  rw [run_87 _ _ _ (by simp)]; unfold Try.f87; simp only [Option.getD_some]
  simp only [go_sem, ↓reduceIte, h1]
  cases hc : ks.contains k
  · have : ¬ i ≥ 0 := fun h => by rw [h4.1 h] at hc; cases hc
    simp only [go_sem, ↓reduceIte, this]
    rfl
  · have : i ≥ 0 := h4.2 hc
    simp only [go_sem, ↓reduceIte, this]
    rfl
def handS (w : Wht) (ks : List Int) : Bool := !w.maybe && ks.contains w.kind
theorem hand_c (d : Nat) (w : Wht) (b : Bool) (ks : List Int) (hl : ks.length ≤ 9223372036854775807) : evalF Try.prog CC (d + 4) 91 [encW w, .list 3 b (intsA ks) none] St.empty = some (.bool (handS w ks), St.empty) := by
  have hc := fun d => Contains_c d b ks w.kind hl
  refine wp_eq ?_
  rw [run_91 _ _ _ (by simp)]; unfold Try.f91; simp only [Option.getD_some]
  simp only [go_sem, ↓reduceIte, hc]
  unfold handS
  generalize ks.contains w.kind = q at hc ⊢
  cases w.maybe <;> cases q
  all_goals
    simp only [go_sem, ↓reduceIte, hc]
    rfl
theorem hand1 (d : Nat) (w : Wht) (a : Int) : evalF Try.prog CC (d + 4) 91 [encW w, .list 3 false [.int .i64 a] none] St.empty = some (.bool (handS w [a]), St.empty) := hand_c d w false [a] (by simp)
theorem hand2 (d : Nat) (w : Wht) (a b : Int) : evalF Try.prog CC (d + 4) 91 [encW w, .list 3 false [.int .i64 a, .int .i64 b] none] St.empty = some (.bool (handS w [a, b]), St.empty) := hand_c d w false [a, b] (by simp)
theorem hand3 (d : Nat) (w : Wht) (a b c : Int) : evalF Try.prog CC (d + 4) 91 [encW w, .list 3 false [.int .i64 a, .int .i64 b, .int .i64 c] none] St.empty = some (.bool (handS w [a, b, c]), St.empty) := hand_c d w false [a, b, c] (by simp)
theorem Keeps.trim {σ τ : St} {id : Nat} (h : Keeps σ τ id) : Keeps σ (τ.trim σ.next) id := ⟨h.1, fun j hj hn => by
  show (if j < σ.next then τ.obj j else none) = _
  rw [if_pos hj]; exact h.2 j hj hn⟩
theorem At.trim {K : Kx} {σ τ : St} {id : Nat} {c : Cal} (h : At K τ id c) (hid : id < σ.next) : At K (τ.trim σ.next) id c := by
  obtain ⟨h1, r, hr, ho⟩ := h
  refine ⟨h1, r, hr, ?_⟩
  show (if id < σ.next then τ.obj id else none) = _
  rw [if_pos hid]; exact ho
theorem Keeps.set {σ τ : St} {id : Nat} (h : Keeps σ τ id) (o : AObj) : Keeps σ (τ.set id o) id := ⟨h.1, fun j hj hn => by
  show (if j = id then some o else τ.obj j) = _
  rw [if_neg hn]; exact h.2 j hj hn⟩
theorem Keeps.new {σ τ : St} {id : Nat} (h : Keeps σ τ id) (o : AObj) : Keeps σ (τ.new o) id := ⟨Nat.le_trans h.1 (Nat.le_succ _), fun j hj hn => by
  show (if j = τ.next then some o else τ.obj j) = _
  rw [if_neg (by have := h.1; omega)]; exact h.2 j hj hn⟩
theorem Keeps.tok {σ τ : St} {id : Nat} (h : Keeps σ τ id) (q : Option Nat) : Keeps σ (τ.tokNew q) id := ⟨h.1, h.2⟩
theorem Keeps.other {σ τ : St} {id j : Nat} (h : Keeps σ τ id) (o : AObj) (hj : σ.next ≤ j) : Keeps σ (τ.set j o) id := ⟨h.1, fun k hk hn => by
  show (if k = j then some o else τ.obj k) = _
  rw [if_neg (by omega)]; exact h.2 k hk hn⟩
theorem keepT {σ : St} {o o' : AObj} {j : Nat} (hj : j < σ.next) : (((σ.new o).set σ.next o').trim σ.next).obj j = σ.obj j := by
  show (if j < σ.next then (if j = σ.next then some o' else if j = σ.next then some o else σ.obj j) else none) = _
  rw [if_pos hj, if_neg (by omega), if_neg (by omega)]
theorem keepN {σ : St} {o o' : AObj} {j : Nat} {x : AObj} (hj : j < σ.next) (h : σ.obj j = some x) : ((σ.new o).set σ.next o').obj j = some x := by
  show (if j = σ.next then some o' else if j = σ.next then some o else σ.obj j) = _
  rw [if_neg (by omega), if_neg (by omega)]; exact h
theorem fin_c {K : Kx} {σ τ : St} {id : Nat} {c : Cal} {v v' : AV} (hid : id < σ.next) (hA : At K τ id c) (hk : Keeps σ τ id) (hv : v = v') : Wp (Sat fun p => p.1 = v' ∧ At K p.2 id c ∧ Keeps σ p.2 id) (some (v, τ.trim σ.next)) :=
  wp_some ⟨hv, hA.trim hid, hk.trim⟩
/-- an error is kept, unless something holds -/
def wantS (c : Cal) (b : Bool) (e : Int) : Cal := if c.err = 0 ∧ b = false then { c with err := e } else c
def okS (c : Cal) : Bool := decide (c.err = 0)
theorem want_c (d : Nat) {K : Kx} {σ : St} {id : Nat} {c : Cal} (h : At K σ id c) (b : Bool) (e : Int) :
    Sat (fun p => p.1 = .bool (okS (wantS c b e)) ∧ At K p.2 id (wantS c b e) ∧ Keeps σ p.2 id) (evalF Try.prog CC (d + 1) 89 [.ptr 123 id [0], .bool b, .int .i64 e] σ) := by
  obtain ⟨hid, r, hr, hob⟩ := h
  refine Sat.go ?_
  rw [run_89 _ _ _ (by simp)]; unfold Try.f89; simp only [Option.getD_some]
  simp only [go_sem, ↓reduceIte, hob]
  unfold wantS okS
  by_cases h0 : c.err = 0
  · cases b
    · simp only [go_sem, ↓reduceIte, hob, h0]
      exact fin_c hid ⟨hid, r, hr, if_pos rfl⟩ ((Keeps.refl σ id).set _) rfl
    · simp only [go_sem, ↓reduceIte, hob, h0]
      exact fin_c hid ⟨hid, r, hr, hob⟩ (Keeps.refl σ id) rfl
  · rw [if_neg (fun h => h0 h.1)]
    simp only [go_sem, ↓reduceIte, hob, h0]
    exact fin_c hid ⟨hid, r, hr, hob⟩ (Keeps.refl σ id) rfl
/-- a fresh pointer -/
def freshS (c : Cal) (k t : Int) (m : Bool) : Cal := { c with tells := ⟨k, t, c.st.next, 0, m, 0, 0⟩, st := { c.st with next := IntKind.i64.wrap (c.st.next + 1) } }
theorem fresh_c (d : Nat) {K : Kx} {σ : St} {id : Nat} {c : Cal} (h : At K σ id c) (k t : Int) (m : Bool) :
    Sat (fun p => p.1 = .tup [] ∧ At K p.2 id (freshS c k t m) ∧ Keeps σ p.2 id) (evalF Try.prog CC (d + 1) 93 [.ptr 123 id [0], .int .i64 k, .int .i64 t, .bool m] σ) := by
  obtain ⟨hid, r, hr, hob⟩ := h
  refine Sat.go ?_
  rw [run_93 _ _ _ (by simp)]; unfold Try.f93; simp only [Option.getD_some]
  simp only [go_sem, ↓reduceIte, hob]
  exact fin_c hid ⟨hid, r, hr, if_pos rfl⟩ (((Keeps.refl σ id).set _).set _) rfl
def oneW : Wht := ⟨1, 0, 0, 0, false, 0, 1⟩
def bitS (c : Cal) : Cal := { c with tells := oneW }
theorem bit_c (d : Nat) {K : Kx} {σ : St} {id : Nat} {c : Cal} (h : At K σ id c) :
    Sat (fun p => p.1 = .tup [] ∧ At K p.2 id (bitS c) ∧ Keeps σ p.2 id) (evalF Try.prog CC (d + 1) 94 [.ptr 123 id [0]] σ) := by
  obtain ⟨hid, r, hr, hob⟩ := h
  refine Sat.go ?_
  rw [run_94 _ _ _ (by simp)]; unfold Try.f94; simp only [Option.getD_some]
  simp only [go_sem, ↓reduceIte, hob]
  exact fin_c hid ⟨hid, r, hr, if_pos rfl⟩ ((Keeps.refl σ id).set _) rfl
/-- a type's field; of a kind that isn't, if there is none -/
def noFld : Fld := ⟨0, 0, 0, 0, 0⟩
def typS (l : List Typ) (t : Int) : List Fld := if 0 ≤ t ∧ t < l.length then (at0 l t).fields else []
def fldS (l : List Typ) (t i : Int) : Fld := if 0 ≤ i ∧ i < (typS l t).length then at0 (typS l t) i else noFld
def okT (l : List Typ) (t : Int) : Bool := decide (0 ≤ t ∧ t < l.length)
def typV (l : List Typ) (t : Int) : AV := if 0 ≤ t ∧ t < l.length then encTy (at0 l t) else .agg 52 [.str ByteArray.empty, .bool false, .bool false, .mt true]
/-- typ, of a call that is only looked at -/
theorem typ_f (d : Nat) (K : Kx) (c : Cal) (r : AV) (σ : St) (t : Int) :
    Sat (fun p => p.1 = .tup [typV K.l t, .bool (okT K.l t)] ∧ σ.next ≤ p.2.next ∧ ∀ j, j < σ.next → p.2.obj j = σ.obj j) (evalF Try.prog CC (d + 1) 88 [.fptr 123 (encC K c r), .int .i64 t] σ) := by
  refine Sat.go ?_
  rw [run_88 _ _ _ (by simp)]; unfold Try.f88; simp only [Option.getD_some]
  simp only [go_sem, ↓reduceIte, go_sem]
  by_cases h0 : t < 0
  · have hv : typV K.l t = .agg 52 [.str ByteArray.empty, .bool false, .bool false, .mt true] := if_neg (by omega)
    have ho : okT K.l t = false := by simp [okT]; omega
    rw [hv, ho]
    simp only [go_sem, ↓reduceIte, h0]
    exact wp_some ⟨rfl, Nat.le_succ _, fun j hj => keepT hj⟩
  · by_cases h1 : t ≥ K.l.length
    · have hv : typV K.l t = .agg 52 [.str ByteArray.empty, .bool false, .bool false, .mt true] := if_neg (by omega)
      have ho : okT K.l t = false := by simp [okT]; omega
      rw [hv, ho]
      simp only [go_sem, ↓reduceIte, h0, h1]
      exact wp_some ⟨rfl, Nat.le_succ _, fun j hj => keepT hj⟩
    · have hidx : idxOk t K.l.length = true := by simp [idxOk]; omega
      have hget : (K.l.map encTy)[t.toNat]? = some (encTy (at0 K.l t)) := by
        rw [List.getElem?_map, at0_get (by omega) (by omega)]; rfl
      have hv : typV K.l t = encTy (at0 K.l t) := if_pos (by omega)
      have ho : okT K.l t = true := by simp [okT]; omega
      rw [hv, ho]
      simp only [encTy] at hget
      simp only [go_sem, ↓reduceIte, h0, h1, hidx, hget]
      exact wp_some ⟨rfl, Nat.le_succ _, fun j hj => keepT hj⟩
theorem typ_p (d : Nat) {K : Kx} {σ : St} {id : Nat} {c : Cal} (h : At K σ id c) (t : Int) :
    Sat (fun p => p.1 = .tup [typV K.l t, .bool (okT K.l t)] ∧ At K p.2 id c ∧ Keeps σ p.2 id) (evalF Try.prog CC (d + 1) 88 [.ptr 123 id [0], .int .i64 t] σ) := by
  obtain ⟨hid, r, hr, hob⟩ := h
  have hne := eq_false (show ¬ id = σ.next by omega)
  refine Sat.go ?_
  rw [run_88 _ _ _ (by simp)]; unfold Try.f88; simp only [Option.getD_some]
  simp only [go_sem, ↓reduceIte, go_sem, hob, hne]
  by_cases h0 : t < 0
  · have hv : typV K.l t = .agg 52 [.str ByteArray.empty, .bool false, .bool false, .mt true] := if_neg (by omega)
    have ho : okT K.l t = false := by simp [okT]; omega
    rw [hv, ho]
    simp only [go_sem, ↓reduceIte, h0, hob, hne]
    exact fin_c hid ⟨Nat.lt_succ_of_lt hid, r, hr, keepN hid hob⟩ (Keeps.other ((Keeps.refl σ id).new _) _ (Nat.le_refl _)) rfl
  · by_cases h1 : t ≥ K.l.length
    · have hv : typV K.l t = .agg 52 [.str ByteArray.empty, .bool false, .bool false, .mt true] := if_neg (by omega)
      have ho : okT K.l t = false := by simp [okT]; omega
      rw [hv, ho]
      simp only [go_sem, ↓reduceIte, h0, h1, hob, hne]
      exact fin_c hid ⟨Nat.lt_succ_of_lt hid, r, hr, keepN hid hob⟩ (Keeps.other ((Keeps.refl σ id).new _) _ (Nat.le_refl _)) rfl
    · have hidx : idxOk t K.l.length = true := by simp [idxOk]; omega
      have hget : (K.l.map encTy)[t.toNat]? = some (encTy (at0 K.l t)) := by
        rw [List.getElem?_map, at0_get (by omega) (by omega)]; rfl
      have hv : typV K.l t = encTy (at0 K.l t) := if_pos (by omega)
      have ho : okT K.l t = true := by simp [okT]; omega
      rw [hv, ho]
      simp only [encTy] at hget
      simp only [go_sem, ↓reduceIte, h0, h1, hidx, hget, hob, hne]
      exact fin_c hid ⟨Nat.lt_succ_of_lt hid, r, hr, keepN hid hob⟩ (Keeps.other ((Keeps.refl σ id).new _) _ (Nat.le_refl _)) rfl
theorem fld_c (d : Nat) (K : Kx) (c : Cal) (r : AV) (t i : Int) : evalF Try.prog CC (d + 2) 95 [.fptr 123 (encC K c r), .int .i64 t, .int .i64 i] St.empty = some (encF (fldS K.l t i), St.empty) := by
  refine wp_eq ?_
  rw [run_95 _ _ _ (by simp)]; unfold Try.f95; simp only [Option.getD_some]
  simp only [go_sem, ↓reduceIte, *]
  refine W.call (typ_f d K c r _ t) ?_
  rintro v s ⟨h1, h2, h3⟩
  simp only at h1 h2 h3
  subst h1
  have h0 : s.obj 0 = some (.cells 61 [encF noFld]) := h3 0 (by decide)
  have hne := eq_false (show ¬ 0 = s.next by have : 1 ≤ s.next := h2; omega)
  clear h2 h3
  unfold fldS typS typV
  by_cases ht : 0 ≤ t ∧ t < K.l.length
  · simp only [if_pos ht]
    generalize at0 K.l t = u
    simp only [go_sem, ↓reduceIte, h0, hne, noFld]
    by_cases hi0 : i < 0
    · rw [if_neg (by omega)]
      simp only [go_sem, ↓reduceIte, h0, hne, hi0, noFld]
      rfl
    · by_cases hi1 : i ≥ u.fields.length
      · rw [if_neg (by omega)]
        simp only [go_sem, ↓reduceIte, h0, hne, hi0, hi1, noFld]
        rfl
      · have hidx : idxOk i u.fields.length = true := by simp [idxOk]; omega
        have hget : (u.fields.map encF)[i.toNat]? = some (encF (at0 u.fields i)) := by
          rw [List.getElem?_map, at0_get (by omega) (by omega)]; rfl
        simp only [encF] at hget
        rw [if_pos (by omega)]
        simp only [go_sem, ↓reduceIte, h0, hne, hi0, hi1, hidx, hget, noFld]
        rfl
  · simp only [if_neg ht]
    rw [if_neg (by simp only [List.length_nil]; omega)]
    simp only [go_sem, ↓reduceIte, h0, hne, noFld]
    by_cases hi0 : i < 0
    · simp only [go_sem, ↓reduceIte, h0, hne, hi0, noFld]
      rfl
    · have hi1 : i ≥ 0 := by omega
      simp only [go_sem, ↓reduceIte, h0, hne, hi0, hi1, noFld]
      rfl
theorem RefA.frz {r : AV} {xs : List Int} (h : RefA r xs) : ∃ r', RefA r' xs ∧ (∀ σ, freeze σ r = some r') ∧ RefA (strip r') xs ∧ viewIds r = [] := by
  rcases h with ⟨rfl, b, rfl⟩ | ⟨b, tok, rfl, hb⟩
  · exact ⟨.mt b, .inl ⟨rfl, b, rfl⟩, fun σ => by simp only [freeze], .inl ⟨rfl, b, by simp only [strip]⟩, by simp only [viewIds]⟩
  · exact ⟨.list 3 b (intsA xs) (if fullT tok then tok else none), .inr ⟨b, _, rfl, hb⟩, fun σ => by simp only [freeze], .inr ⟨b, none, by simp only [strip], hb⟩, by simp only [viewIds]⟩
theorem frz_W (σ : St) : ∀ l : List Wht, freezeL σ (l.map encW) = some (l.map encW)
  | [] => by simp only [List.map_nil, freezeL]
  | w :: l => by rw [List.map_cons]; simp only [freezeL, freeze, frz_W σ l, encW, Option.map_some]
theorem strip_W : ∀ l : List Wht, stripL (l.map encW) = l.map encW
  | [] => by simp only [List.map_nil, stripL]
  | w :: l => by rw [List.map_cons]; simp only [stripL, strip, strip_W l, encW]
theorem view_W : ∀ l : List Wht, viewIdsL (l.map encW) = []
  | [] => by simp only [List.map_nil, viewIdsL]
  | w :: l => by rw [List.map_cons]; simp only [viewIdsL, viewIds, view_W l, encW, List.nil_append]
theorem wst (c : Cal) (b : Bool) (e : Int) : (wantS c b e).st = c.st := by unfold wantS; split <;> rfl
theorem wx (c : Cal) (b : Bool) (e : Int) : (wantS c b e).x = c.x := by unfold wantS; split <;> rfl
theorem wy (c : Cal) (b : Bool) (e : Int) : (wantS c b e).y = c.y := by unfold wantS; split <;> rfl
theorem wn (c : Cal) (b : Bool) (e : Int) : (wantS c b e).n = c.n := by unfold wantS; split <;> rfl
theorem wtells (c : Cal) (b : Bool) (e : Int) : (wantS c b e).tells = c.tells := by unfold wantS; split <;> rfl
def looseS (c : Cal) (f : Fld) : Cal := { c with tells := ⟨4, f.type, c.x.id, IntKind.i64.wrap (IntKind.i64.wrap (16 * c.x.type) + c.n), true, 0, 0⟩ }
theorem loose_c (d : Nat) {K : Kx} {σ : St} {id : Nat} {c : Cal} (h : At K σ id c) (f : Fld) :
    Sat (fun p => p.1 = .tup [] ∧ At K p.2 id (looseS c f) ∧ Keeps σ p.2 id) (evalF Try.prog CC (d + 1) 99 [.ptr 123 id [0], encF f] σ) := by
  obtain ⟨hid, r, hr, hob⟩ := h
  have hne := eq_false (show ¬ id = σ.next by omega)
  have hne2 := eq_false (show ¬ σ.next = id by omega)
  refine Sat.go ?_
  rw [run_99 _ _ _ (by simp)]; unfold Try.f99; simp only [Option.getD_some]
  simp only [go_sem, ↓reduceIte, hob, hne, hne2]
  refine W.br_ok (by kernel_rfl) ?_
  simp only [go_sem, ↓reduceIte, hob, hne, hne2]
  exact fin_c hid ⟨Nat.lt_succ_of_lt hid, r, hr, if_pos rfl⟩ (((Keeps.refl σ id).new _).set _) rfl
/-- the value is asked for, whether it is locked, and its field, whether it is of a kind -/
def lockS (K : Kx) (c : Cal) (k : Int) : Cal := wantS (wantS c (handS c.x [5] && decide (c.st.lock = c.x.id) && !decide (c.st.lock = 0)) 9) (decide ((fldS K.l c.x.type c.n).kind = k)) 7
theorem locked_c (d : Nat) {K : Kx} {σ : St} {id : Nat} {c : Cal} (h : At K σ id c) (k : Int) :
    Sat (fun p => p.1 = encF (fldS K.l c.x.type c.n) ∧ At K p.2 id (lockS K c k) ∧ Keeps σ p.2 id) (evalF Try.prog CC (d + 5) 100 [.ptr 123 id [0], .int .i64 k] σ) := by
  obtain ⟨hid, r, hr, hob⟩ := h
  have hne := eq_false (show ¬ id = σ.next by omega)
  have hh := fun d => hand1 d c.x 5
  simp only [encW] at hh
  have hfd := fun d r => fld_c d K (wantS c (handS c.x [5] && decide (c.st.lock = c.x.id) && !decide (c.st.lock = 0)) 9) r c.x.type c.n
  simp only [encC, encS, encW, encF, wst, wx, wy, wn, wtells] at hfd
  unfold lockS
  obtain ⟨b1, hb1⟩ : ∃ b, handS c.x [5] = b := ⟨_, rfl⟩
  obtain ⟨b2, hb2⟩ : ∃ b, decide (c.st.lock = c.x.id) = b := ⟨_, rfl⟩
  obtain ⟨b3, hb3⟩ : ∃ b, decide (c.st.lock = 0) = b := ⟨_, rfl⟩
  rw [hb1, hb2, hb3] at hfd ⊢
  refine Sat.go ?_
  rw [run_100 _ _ _ (by simp)]; unfold Try.f100; simp only [Option.getD_some]
  simp only [go_sem, ↓reduceIte, hob, hne]
  refine W.br_ok (by kernel_rfl) ?_
  simp only [go_sem, ↓reduceIte, hob, hne, hh]
  cases b1 <;> cases b2 <;> cases b3
  all_goals
    try simp only [Bool.and_false, Bool.and_true, Bool.false_and, Bool.true_and, Bool.not_true, Bool.not_false, Bool.and_self] at hfd ⊢
    simp only [go_sem, ↓reduceIte, hob, hne, hh, hb1, hb2, hb3]
    refine W.call (want_c _ (K := K) (id := id) (c := c) ⟨Nat.lt_succ_of_lt hid, r, hr, (if_neg (Nat.ne_of_lt hid)).trans hob⟩ _ 9) ?_
    rintro v s ⟨g1, ⟨g2, r2, g3, g4⟩, g5, g6⟩
    simp only at g1 g2 g4 g5 g6
    have g7 := g6 σ.next (Nat.lt_succ_self _) (Nat.ne_of_gt hid)
    rw [show (σ.new (.cells 61 [.agg 61 [.int .i64 0, .int .i64 0, .int .i64 0, .int .i64 0, .int .i64 0]])).obj σ.next = _ from if_pos rfl] at g7
    obtain ⟨r3, hr3, hfz, _, _⟩ := g3.frz
    have g4' := g4
    simp only [encC, wst, wx, wy, wn, wtells] at g4
    simp only [go_sem, ↓reduceIte, g4, hne]
    refine W.br_ok (by kernel_rfl) ?_
    simp only [go_sem, ↓reduceIte, g4, hne, hfz, frz_W, hfd]
    refine W.call (want_c _ (K := K) (id := id) ⟨Nat.lt_succ_of_lt g2, r2, g3, keepN g2 g4'⟩ _ 7) ?_
    rintro v2 s2 ⟨k1, ⟨k2, r4, k3, k4⟩, k5, k6⟩
    simp only at k1 k2 k4 k5 k6
    have hss : σ.next + 1 ≤ s.next := g5
    have hs2 : s.next + 1 ≤ s2.next := k5
    have k7 : s2.obj σ.next = some (.cells 61 [.agg 61 [.int .i64 0, .int .i64 0, .int .i64 0, .int .i64 0, .int .i64 0]]) := by
      rw [k6 σ.next (show σ.next < s.next + 1 by omega) (by omega)]
      exact keepN (by omega) g7
    have k8 : s2.obj s.next = some (.cells 61 [encF (fldS K.l c.x.type c.n)]) := (k6 s.next (Nat.lt_succ_self _) (by omega)).trans (if_pos rfl)
    have hk : Keeps σ s2 id := (((Keeps.refl σ id).new _).trans ⟨g5, g6⟩).trans ⟨by omega, fun j hj hn => by
      rw [k6 j (show j < s.next + 1 by omega) hn]
      show (if j = s.next then _ else if j = s.next then _ else s.obj j) = _
      rw [if_neg (by omega), if_neg (by omega)]⟩
    simp only [encF] at k8
    have hn2 := eq_false (show ¬ σ.next = s2.next by omega)
    have hn3 := eq_false (show ¬ σ.next = s.next by omega)
    simp only [go_sem, ↓reduceIte, k7, k8, hn2, hn3]
    exact fin_c hid ⟨k2, r4, k3, (if_neg (Nat.ne_of_lt hid)).trans k4⟩ (Keeps.other hk _ (Nat.le_refl _)) rfl
end Go.Proofs.Yticlihmbikcohaa.Va
