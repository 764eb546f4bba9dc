/- wire.name: the walk of the function's own text: it tells what the bytes' classes and the length say -/
import Derived.Test.YticlihmbikcohaaProg
import Derived.WalkKit
import Derived.KernelRfl
import Derived.Laws.BitsLemmas
import Derived.Laws.RangeString
import Derived.Laws.RangeAny
import Derived.Lib.Hide
namespace Go.Proofs.Yticlihmbikcohaa.HWireName
open Go.RowKit

def okB (c : Int) : Bool := (decide (97 ≤ c) && decide (c ≤ 122)) || (decide (65 ≤ c) && decide (c ≤ 90)) || (decide (48 ≤ c) && decide (c ≤ 57)) || decide (c = 95)
def AllB (s : ByteArray) (pos : Nat) : Prop := ∀ i (h : i < s.size), i < pos → okB (s[i]'h).toNat = true
/-- What is told of a text: all its bytes are of a name, and it has 1 to 16 of them. -/
def Told (s : ByteArray) (b : Bool) : Prop := (b = true → AllB s s.size ∧ 0 < s.size ∧ s.size ≤ 16) ∧ (b = false → (∃ i, ∃ h : i < s.size, okB (s[i]'h).toNat = false) ∨ s.size = 0 ∨ 16 < s.size)
theorem Told.one {s : ByteArray} {b c : Bool} (h : Told s b) (h' : Told s c) : b = c := by
  have key : Told s true → Told s false → False := fun ht hf => by
    obtain ⟨ha, h1, h2⟩ := ht.1 rfl
    rcases hf.2 rfl with ⟨i, hi, hk⟩ | h0 | h16
    · rw [ha i hi hi] at hk; cases hk
    · omega
    · omega
  cases b <;> cases c <;> first | rfl | exact (key h h').elim | exact (key h' h).elim

theorem bits_all : ∀ c : Fin 128, ((decide (97 ≤ bits .or .i32 (c.val : Int) 32) && decide (bits .or .i32 (c.val : Int) 32 ≤ 122)) = ((decide (97 ≤ c.val) && decide (c.val ≤ 122)) || (decide (65 ≤ c.val) && decide (c.val ≤ 90)))) := by decide +kernel
theorem bits_cls (c : Nat) (h : c < 128) : (97 ≤ bits .or .i32 (c : Int) 32 ∧ bits .or .i32 (c : Int) 32 ≤ 122) ↔ ((97 ≤ c ∧ c ≤ 122) ∨ (65 ≤ c ∧ c ≤ 90)) := by
  have := bits_all ⟨c, h⟩
  rw [Bool.eq_iff_iff] at this
  simpa using this
theorem bits_high (c : Nat) (h : 128 ≤ c) (h2 : c ≤ 2147483647) : 128 ≤ bits .or .i32 (c : Int) 32 := by
  have e : (BitVec.ofInt 32 (c : Int)).toNat = c := by rw [BitVec.ofInt_natCast, BitVec.toNat_ofNat]; exact Nat.mod_eq_of_lt (by omega)
  have e2 : (BitVec.ofInt 32 32).toNat = 32 := by decide
  have hl : c ||| 32 < 2 ^ 31 := Nat.or_lt_two_pow (by omega) (by omega)
  have hg : c ≤ c ||| 32 := Nat.left_le_or
  show 128 ≤ IntKind.i32.wrap ((BitVec.ofInt 32 (c : Int) ||| BitVec.ofInt 32 32).toNat : Int)
  rw [BitVec.toNat_or, e, e2]
  have : IntKind.i32.wrap ((c ||| 32 : Nat) : Int) = ((c ||| 32 : Nat) : Int) := by
    rw [IntKind.wrap_i32]; omega
  rw [this]; omega
theorem okB_true {c : Int} (h : (97 ≤ c ∧ c ≤ 122) ∨ (65 ≤ c ∧ c ≤ 90) ∨ (48 ≤ c ∧ c ≤ 57) ∨ c = 95) : okB c = true := by
  unfold okB; simp; omega
theorem okB_false {c : Int} (h : ¬ ((97 ≤ c ∧ c ≤ 122) ∨ (65 ≤ c ∧ c ≤ 90) ∨ (48 ≤ c ∧ c ≤ 57) ∨ c = 95)) : okB c = false := by
  unfold okB; simp; omega
theorem AllB.step {s : ByteArray} {pos : Nat} (h : AllB s pos) (hp : pos < s.size) (hk : okB (s[pos]'hp).toNat = true) : AllB s (pos + 1) := by
  intro i hi hlt
  by_cases e : i = pos
  · subst e; exact hk
  · exact h i hi (by omega)
theorem Told.bad {s : ByteArray} {pos : Nat} (hp : pos < s.size) (hk : okB (s[pos]'hp).toNat = false) : Told s false :=
  ⟨(fun h => by cases h), fun _ => .inl ⟨pos, hp, hk⟩⟩
theorem Told.zero {s : ByteArray} (h : s.size = 0) : Told s false := ⟨(fun h => by cases h), fun _ => .inr (.inl h)⟩
theorem Told.done {s : ByteArray} (h : AllB s s.size) (h0 : 0 < s.size) : Told s (decide ((s.size : Int) ≤ 16)) := by
  by_cases h16 : (s.size : Int) ≤ 16
  · rw [decide_eq_true h16]; exact ⟨fun _ => ⟨h, h0, by omega⟩, fun h => by cases h⟩
  · rw [decide_eq_false h16]; exact ⟨(fun h => by cases h), fun _ => .inr (.inr (by omega))⟩
theorem iter_below (w : World) (s : ByteArray) (pos : Nat) : Below w.heap.size w (w.iter s pos) := (Below.refl _ _).alloc (Nat.le_refl _) _
def Post (w : World) (s : ByteArray) (e : Ending) (w' : World) : Prop := ∃ b', e = .returned (.bool b') ∧ Told s b' ∧ Below w.heap.size w w'

set_option maxRecDepth 1000000 in
set_option maxHeartbeats 1000000 in
theorem walk (s : ByteArray) (w : World) : Calls Try.prog 67 #[.string s] w (Post w s) := by
  go_enter Try.func67, Try.ntmps67
  go_wp2
  go_loopw [] (fun w' => ∃ (pos : Nat), w' = w.iter s pos ∧ pos ≤ s.size ∧ Hid (AllB s pos)) (fun w' => s.size - w'.iterPos w.heap.size)
  case atStart => exact ⟨0, rfl, Nat.zero_le _, fun i h hi => absurd hi (by omega)⟩
  case round =>
    obtain ⟨pos, rfl, hle, HA⟩ := hrel
    by_cases hp : pos < s.size
    · by_cases ha : (s[pos]'hp).toNat < 128
      · have hnx : ∀ ty, (Instr.next (.pointer (some ⟨w.heap.size, 0, none⟩)) true ty).run Try.prog (w.iter s pos) = _ := fun ty => run_next_ascii w s pos ty hp ha
        have HF := Lib.hid (bits_cls _ ha)
        go_wp2
        all_goals
          have hF := HF.out
          clear hnx
          try simp only [bne_iff_ne, ne_eq, bne_eq_false_iff_eq] at *
          first
          | (go_roundw
             case rel => exact ⟨pos + 1, rfl, by omega, HA.out.step hp (okB_true (by omega))⟩
             case measure => simp; omega)
          | (go_ret
             refine ⟨false, rfl, Told.bad hp (okB_false ?_), iter_below _ _ _⟩
             omega)
      · have hnx : ∀ ty, (Instr.next (.pointer (some ⟨w.heap.size, 0, none⟩)) true ty).run Try.prog (w.iter s pos) = _ := fun ty => run_next_any w s pos ty hp
        have hd := (decode_high s pos hp (by omega)).1
        have hd2 := decode_le s pos
        have HF := bits_high _ hd hd2
        have g1 : decide ((97 : Int) ≤ bits .or .i32 ((Utf8.decode s pos).1 : Int) 32) = true := by simp; omega
        go_wp2
        all_goals
          clear hnx
          try simp only [bne_iff_ne, ne_eq, bne_eq_false_iff_eq] at *
          first
          | (exfalso; omega)
          | (go_ret
             refine ⟨false, rfl, Told.bad hp (okB_false ?_), iter_below _ _ _⟩
             omega)
    · have hnx : ∀ ty, (Instr.next (.pointer (some ⟨w.heap.size, 0, none⟩)) true ty).run Try.prog (w.iter s pos) = _ := fun ty => run_next_end w s pos ty hp
      obtain rfl : pos = s.size := by omega
      go_wp2
      all_goals
        go_ret
        first
        | exact ⟨_, rfl, Told.done HA.out (by assumption), iter_below _ _ _⟩
        | exact ⟨false, rfl, Told.zero (by omega), iter_below _ _ _⟩
end Go.Proofs.Yticlihmbikcohaa.HWireName
