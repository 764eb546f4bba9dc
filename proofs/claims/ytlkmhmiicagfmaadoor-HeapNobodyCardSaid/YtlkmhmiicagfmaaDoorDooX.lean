/- the doors: what is told from outside holds -/
import Derived.Test.YtlkmhmiicagfmaaDoorDooC
import Derived.Test.YtlkmhmiicagfmaaDoorVaDg
namespace Go.Proofs.YtlkmhmiicagfmaaDoor.Va
open Go Go.RowKit
set_option linter.unusedVariables false
theorem told_nameB (s : ByteArray) : HWireName.Told s (nameB s) := by
  have hget : ∀ i (h : i < s.size), s[i]'h = s.data.toList[i]'(by rw [Array.length_toList]; exact h) := fun i h => rfl
  refine ⟨fun h => ?_, fun h => ?_⟩
  · simp only [nameB, Bool.and_eq_true, decide_eq_true_eq] at h
    refine ⟨fun i hi _ => ?_, h.1.2, h.2⟩
    rw [hget i hi]
    exact List.all_eq_true.1 h.1.1 _ (List.getElem_mem _)
  · by_cases h1 : s.data.toList.all (fun b => HWireName.okB (b.toNat : Int)) = true
    · by_cases h2 : 0 < s.size
      · refine .inr (.inr ?_)
        have h3 : ¬ s.size ≤ 16 := by
          intro h3
          simp [nameB, h1, h2, h3] at h
        omega
      · exact .inr (.inl (by omega))
    · refine .inl ?_
      have : ∃ b ∈ s.data.toList, ¬ HWireName.okB (b.toNat : Int) = true := by
        rw [List.all_eq_true] at h1
        exact Classical.not_forall.1 h1 |>.imp fun b hb => by simpa using hb
      obtain ⟨b, hb, hk⟩ := this
      obtain ⟨i, hi, rfl⟩ := List.mem_iff_getElem.1 hb
      exact ⟨i, by rw [Array.length_toList] at hi; exact hi, by rw [hget]; simpa using hk⟩
theorem enters {P : Program} {f : FuncId} {fn : Func} {b : Code} (hf : P.funcs[f]? = some fn) (hb : fn.body = some b) (hn : (fn.name != "runtime.NumGoroutine") = true) (vs : Array Value) (w : World) : (callFunc f vs).run P w = .ok (.enter f vs) w := by
  have hn : ¬ fn.name = "runtime.NumGoroutine" := by simpa using hn
  simp [callFunc, hf, hb, hn]
theorem ext_ok : ExtOk Tryd.prog CC := by
  intro base c σ w f g args vs v σ' hg hI h hA
  have hg : ext5 f = some g := hg
  unfold ext5 at hg
  split at hg
  · simp only [Option.some.injEq] at hg
    subst hg
    dsimp only at h
    split at h
    · rename_i s
      simp only [Option.some.injEq, Prod.mk.injEq] at h
      obtain ⟨rfl, rfl⟩ := h
      obtain ⟨hl, hv⟩ := hA
      obtain ⟨vl⟩ := vs
      match vl, hl with
      | [x], _ =>
        obtain rfl := rep_str (hv 0 _ _ rfl rfl)
        show Goes Tryd.prog 129 _ _ _
        refine .inl ⟨enters Tryd.func129 (b := Tryd.f129.body.getD .skip) rfl (by kernel_rfl) _ _, (HWireName.walk s w).mono fun e w' ⟨b, he, ht, hb⟩ => ⟨.bool b, he, c, ⟨.refl c, hb.mono hI.le, fun _ _ _ => rfl, fun _ _ => rfl⟩, hI.far hb, ?_⟩⟩
        rw [HWireName.Told.one ht (told_nameB s)]
        exact mk_bool _
    · cases h
  · cases hg
theorem calls_ok (hm : Tryd.prog.follows .mixedOrders = true) (d : Nat) : CallOk Tryd.prog CC (evalF Tryd.prog CC d) :=
  evalF_sound tabOk ext_ok (fun call f b c0 w0 N D r hC hG => draw_sound tabOk hm hC hG) d
end Go.Proofs.YtlkmhmiicagfmaaDoor.Va
