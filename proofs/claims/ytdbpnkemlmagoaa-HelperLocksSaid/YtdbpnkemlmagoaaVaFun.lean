/- each function's place in the interpreter -/
import Derived.Test.YtdbpnkemlmagoaaEigC
namespace Go.Proofs.Ytdbpnkemlmagoaa.Va
open Go
set_option linter.unusedVariables false
theorem body_2 : Try.f2.body = some (Try.f2.body.getD .skip) := rfl
theorem dst_2 : dstOk 1 (Try.f2.body.getD .skip) = true := by kernel_rfl
theorem name_2 : (Try.f2.name != "runtime.NumGoroutine") = true := by kernel_rfl
theorem run_2 (d : Nat) (args : List AV) (σ : St) (h : args.length ≤ 1) : evalF Try.prog CC (d + 1) 2 args σ = evalCode CC (evalF Try.prog CC d) 2 (Try.f2.body.getD .skip) (entryEnv args) σ (retK CC 2 Try.f2 σ) :=
  evalF_succ Try.prog CC (fn := Try.f2) (N := 1) rfl Try.func2 body_2 rfl dst_2 name_2 h
theorem body_3 : Try.f3.body = some (Try.f3.body.getD .skip) := rfl
theorem dst_3 : dstOk 81 (Try.f3.body.getD .skip) = true := by kernel_rfl
theorem name_3 : (Try.f3.name != "runtime.NumGoroutine") = true := by kernel_rfl
theorem run_3 (d : Nat) (args : List AV) (σ : St) (h : args.length ≤ 81) : evalF Try.prog CC (d + 1) 3 args σ = evalCode CC (evalF Try.prog CC d) 3 (Try.f3.body.getD .skip) (entryEnv args) σ (retK CC 3 Try.f3 σ) :=
  evalF_succ Try.prog CC (fn := Try.f3) (N := 81) rfl Try.func3 body_3 rfl dst_3 name_3 h
theorem body_4 : Try.f4.body = some (Try.f4.body.getD .skip) := rfl
theorem dst_4 : dstOk 123 (Try.f4.body.getD .skip) = true := by kernel_rfl
theorem name_4 : (Try.f4.name != "runtime.NumGoroutine") = true := by kernel_rfl
theorem run_4 (d : Nat) (args : List AV) (σ : St) (h : args.length ≤ 123) : evalF Try.prog CC (d + 1) 4 args σ = evalCode CC (evalF Try.prog CC d) 4 (Try.f4.body.getD .skip) (entryEnv args) σ (retK CC 4 Try.f4 σ) :=
  evalF_succ Try.prog CC (fn := Try.f4) (N := 123) rfl Try.func4 body_4 rfl dst_4 name_4 h
theorem body_5 : Try.f5.body = some (Try.f5.body.getD .skip) := rfl
theorem dst_5 : dstOk 115 (Try.f5.body.getD .skip) = true := by kernel_rfl
theorem name_5 : (Try.f5.name != "runtime.NumGoroutine") = true := by kernel_rfl
theorem run_5 (d : Nat) (args : List AV) (σ : St) (h : args.length ≤ 115) : evalF Try.prog CC (d + 1) 5 args σ = evalCode CC (evalF Try.prog CC d) 5 (Try.f5.body.getD .skip) (entryEnv args) σ (retK CC 5 Try.f5 σ) :=
  evalF_succ Try.prog CC (fn := Try.f5) (N := 115) rfl Try.func5 body_5 rfl dst_5 name_5 h
theorem body_6 : Try.f6.body = some (Try.f6.body.getD .skip) := rfl
theorem dst_6 : dstOk 73 (Try.f6.body.getD .skip) = true := by kernel_rfl
theorem name_6 : (Try.f6.name != "runtime.NumGoroutine") = true := by kernel_rfl
theorem run_6 (d : Nat) (args : List AV) (σ : St) (h : args.length ≤ 73) : evalF Try.prog CC (d + 1) 6 args σ = evalCode CC (evalF Try.prog CC d) 6 (Try.f6.body.getD .skip) (entryEnv args) σ (retK CC 6 Try.f6 σ) :=
  evalF_succ Try.prog CC (fn := Try.f6) (N := 73) rfl Try.func6 body_6 rfl dst_6 name_6 h
theorem body_7 : Try.f7.body = some (Try.f7.body.getD .skip) := rfl
theorem dst_7 : dstOk 58 (Try.f7.body.getD .skip) = true := by kernel_rfl
theorem name_7 : (Try.f7.name != "runtime.NumGoroutine") = true := by kernel_rfl
theorem run_7 (d : Nat) (args : List AV) (σ : St) (h : args.length ≤ 58) : evalF Try.prog CC (d + 1) 7 args σ = evalCode CC (evalF Try.prog CC d) 7 (Try.f7.body.getD .skip) (entryEnv args) σ (retK CC 7 Try.f7 σ) :=
  evalF_succ Try.prog CC (fn := Try.f7) (N := 58) rfl Try.func7 body_7 rfl dst_7 name_7 h
theorem body_8 : Try.f8.body = some (Try.f8.body.getD .skip) := rfl
theorem dst_8 : dstOk 37 (Try.f8.body.getD .skip) = true := by kernel_rfl
theorem name_8 : (Try.f8.name != "runtime.NumGoroutine") = true := by kernel_rfl
theorem run_8 (d : Nat) (args : List AV) (σ : St) (h : args.length ≤ 37) : evalF Try.prog CC (d + 1) 8 args σ = evalCode CC (evalF Try.prog CC d) 8 (Try.f8.body.getD .skip) (entryEnv args) σ (retK CC 8 Try.f8 σ) :=
  evalF_succ Try.prog CC (fn := Try.f8) (N := 37) rfl Try.func8 body_8 rfl dst_8 name_8 h
theorem body_9 : Try.f9.body = some (Try.f9.body.getD .skip) := rfl
theorem dst_9 : dstOk 113 (Try.f9.body.getD .skip) = true := by kernel_rfl
theorem name_9 : (Try.f9.name != "runtime.NumGoroutine") = true := by kernel_rfl
theorem run_9 (d : Nat) (args : List AV) (σ : St) (h : args.length ≤ 113) : evalF Try.prog CC (d + 1) 9 args σ = evalCode CC (evalF Try.prog CC d) 9 (Try.f9.body.getD .skip) (entryEnv args) σ (retK CC 9 Try.f9 σ) :=
  evalF_succ Try.prog CC (fn := Try.f9) (N := 113) rfl Try.func9 body_9 rfl dst_9 name_9 h
theorem body_10 : Try.f10.body = some (Try.f10.body.getD .skip) := rfl
theorem dst_10 : dstOk 61 (Try.f10.body.getD .skip) = true := by kernel_rfl
theorem name_10 : (Try.f10.name != "runtime.NumGoroutine") = true := by kernel_rfl
theorem run_10 (d : Nat) (args : List AV) (σ : St) (h : args.length ≤ 61) : evalF Try.prog CC (d + 1) 10 args σ = evalCode CC (evalF Try.prog CC d) 10 (Try.f10.body.getD .skip) (entryEnv args) σ (retK CC 10 Try.f10 σ) :=
  evalF_succ Try.prog CC (fn := Try.f10) (N := 61) rfl Try.func10 body_10 rfl dst_10 name_10 h
theorem body_11 : Try.f11.body = some (Try.f11.body.getD .skip) := rfl
theorem dst_11 : dstOk 142 (Try.f11.body.getD .skip) = true := by kernel_rfl
theorem name_11 : (Try.f11.name != "runtime.NumGoroutine") = true := by kernel_rfl
theorem run_11 (d : Nat) (args : List AV) (σ : St) (h : args.length ≤ 142) : evalF Try.prog CC (d + 1) 11 args σ = evalCode CC (evalF Try.prog CC d) 11 (Try.f11.body.getD .skip) (entryEnv args) σ (retK CC 11 Try.f11 σ) :=
  evalF_succ Try.prog CC (fn := Try.f11) (N := 142) rfl Try.func11 body_11 rfl dst_11 name_11 h
theorem body_12 : Try.f12.body = some (Try.f12.body.getD .skip) := rfl
theorem dst_12 : dstOk 8 (Try.f12.body.getD .skip) = true := by kernel_rfl
theorem name_12 : (Try.f12.name != "runtime.NumGoroutine") = true := by kernel_rfl
theorem run_12 (d : Nat) (args : List AV) (σ : St) (h : args.length ≤ 8) : evalF Try.prog CC (d + 1) 12 args σ = evalCode CC (evalF Try.prog CC d) 12 (Try.f12.body.getD .skip) (entryEnv args) σ (retK CC 12 Try.f12 σ) :=
  evalF_succ Try.prog CC (fn := Try.f12) (N := 8) rfl Try.func12 body_12 rfl dst_12 name_12 h
theorem body_13 : Try.f13.body = some (Try.f13.body.getD .skip) := rfl
theorem dst_13 : dstOk 42 (Try.f13.body.getD .skip) = true := by kernel_rfl
theorem name_13 : (Try.f13.name != "runtime.NumGoroutine") = true := by kernel_rfl
theorem run_13 (d : Nat) (args : List AV) (σ : St) (h : args.length ≤ 42) : evalF Try.prog CC (d + 1) 13 args σ = evalCode CC (evalF Try.prog CC d) 13 (Try.f13.body.getD .skip) (entryEnv args) σ (retK CC 13 Try.f13 σ) :=
  evalF_succ Try.prog CC (fn := Try.f13) (N := 42) rfl Try.func13 body_13 rfl dst_13 name_13 h
theorem body_14 : Try.f14.body = some (Try.f14.body.getD .skip) := rfl
theorem dst_14 : dstOk 6 (Try.f14.body.getD .skip) = true := by kernel_rfl
theorem name_14 : (Try.f14.name != "runtime.NumGoroutine") = true := by kernel_rfl
theorem run_14 (d : Nat) (args : List AV) (σ : St) (h : args.length ≤ 6) : evalF Try.prog CC (d + 1) 14 args σ = evalCode CC (evalF Try.prog CC d) 14 (Try.f14.body.getD .skip) (entryEnv args) σ (retK CC 14 Try.f14 σ) :=
  evalF_succ Try.prog CC (fn := Try.f14) (N := 6) rfl Try.func14 body_14 rfl dst_14 name_14 h
theorem body_15 : Try.f15.body = some (Try.f15.body.getD .skip) := rfl
theorem dst_15 : dstOk 79 (Try.f15.body.getD .skip) = true := by kernel_rfl
theorem name_15 : (Try.f15.name != "runtime.NumGoroutine") = true := by kernel_rfl
theorem run_15 (d : Nat) (args : List AV) (σ : St) (h : args.length ≤ 79) : evalF Try.prog CC (d + 1) 15 args σ = evalCode CC (evalF Try.prog CC d) 15 (Try.f15.body.getD .skip) (entryEnv args) σ (retK CC 15 Try.f15 σ) :=
  evalF_succ Try.prog CC (fn := Try.f15) (N := 79) rfl Try.func15 body_15 rfl dst_15 name_15 h
theorem body_16 : Try.f16.body = some (Try.f16.body.getD .skip) := rfl
theorem dst_16 : dstOk 63 (Try.f16.body.getD .skip) = true := by kernel_rfl
theorem name_16 : (Try.f16.name != "runtime.NumGoroutine") = true := by kernel_rfl
theorem run_16 (d : Nat) (args : List AV) (σ : St) (h : args.length ≤ 63) : evalF Try.prog CC (d + 1) 16 args σ = evalCode CC (evalF Try.prog CC d) 16 (Try.f16.body.getD .skip) (entryEnv args) σ (retK CC 16 Try.f16 σ) :=
  evalF_succ Try.prog CC (fn := Try.f16) (N := 63) rfl Try.func16 body_16 rfl dst_16 name_16 h
theorem body_17 : Try.f17.body = some (Try.f17.body.getD .skip) := rfl
theorem dst_17 : dstOk 140 (Try.f17.body.getD .skip) = true := by kernel_rfl
theorem name_17 : (Try.f17.name != "runtime.NumGoroutine") = true := by kernel_rfl
theorem run_17 (d : Nat) (args : List AV) (σ : St) (h : args.length ≤ 140) : evalF Try.prog CC (d + 1) 17 args σ = evalCode CC (evalF Try.prog CC d) 17 (Try.f17.body.getD .skip) (entryEnv args) σ (retK CC 17 Try.f17 σ) :=
  evalF_succ Try.prog CC (fn := Try.f17) (N := 140) rfl Try.func17 body_17 rfl dst_17 name_17 h
theorem body_18 : Try.f18.body = some (Try.f18.body.getD .skip) := rfl
theorem dst_18 : dstOk 25 (Try.f18.body.getD .skip) = true := by kernel_rfl
theorem name_18 : (Try.f18.name != "runtime.NumGoroutine") = true := by kernel_rfl
theorem run_18 (d : Nat) (args : List AV) (σ : St) (h : args.length ≤ 25) : evalF Try.prog CC (d + 1) 18 args σ = evalCode CC (evalF Try.prog CC d) 18 (Try.f18.body.getD .skip) (entryEnv args) σ (retK CC 18 Try.f18 σ) :=
  evalF_succ Try.prog CC (fn := Try.f18) (N := 25) rfl Try.func18 body_18 rfl dst_18 name_18 h
theorem body_19 : Try.f19.body = some (Try.f19.body.getD .skip) := rfl
theorem dst_19 : dstOk 114 (Try.f19.body.getD .skip) = true := by kernel_rfl
theorem name_19 : (Try.f19.name != "runtime.NumGoroutine") = true := by kernel_rfl
theorem run_19 (d : Nat) (args : List AV) (σ : St) (h : args.length ≤ 114) : evalF Try.prog CC (d + 1) 19 args σ = evalCode CC (evalF Try.prog CC d) 19 (Try.f19.body.getD .skip) (entryEnv args) σ (retK CC 19 Try.f19 σ) :=
  evalF_succ Try.prog CC (fn := Try.f19) (N := 114) rfl Try.func19 body_19 rfl dst_19 name_19 h
theorem body_20 : Try.f20.body = some (Try.f20.body.getD .skip) := rfl
theorem dst_20 : dstOk 125 (Try.f20.body.getD .skip) = true := by kernel_rfl
theorem name_20 : (Try.f20.name != "runtime.NumGoroutine") = true := by kernel_rfl
theorem run_20 (d : Nat) (args : List AV) (σ : St) (h : args.length ≤ 125) : evalF Try.prog CC (d + 1) 20 args σ = evalCode CC (evalF Try.prog CC d) 20 (Try.f20.body.getD .skip) (entryEnv args) σ (retK CC 20 Try.f20 σ) :=
  evalF_succ Try.prog CC (fn := Try.f20) (N := 125) rfl Try.func20 body_20 rfl dst_20 name_20 h
theorem body_21 : Try.f21.body = some (Try.f21.body.getD .skip) := rfl
theorem dst_21 : dstOk 26 (Try.f21.body.getD .skip) = true := by kernel_rfl
theorem name_21 : (Try.f21.name != "runtime.NumGoroutine") = true := by kernel_rfl
theorem run_21 (d : Nat) (args : List AV) (σ : St) (h : args.length ≤ 26) : evalF Try.prog CC (d + 1) 21 args σ = evalCode CC (evalF Try.prog CC d) 21 (Try.f21.body.getD .skip) (entryEnv args) σ (retK CC 21 Try.f21 σ) :=
  evalF_succ Try.prog CC (fn := Try.f21) (N := 26) rfl Try.func21 body_21 rfl dst_21 name_21 h
theorem body_22 : Try.f22.body = some (Try.f22.body.getD .skip) := rfl
theorem dst_22 : dstOk 73 (Try.f22.body.getD .skip) = true := by kernel_rfl
theorem name_22 : (Try.f22.name != "runtime.NumGoroutine") = true := by kernel_rfl
theorem run_22 (d : Nat) (args : List AV) (σ : St) (h : args.length ≤ 73) : evalF Try.prog CC (d + 1) 22 args σ = evalCode CC (evalF Try.prog CC d) 22 (Try.f22.body.getD .skip) (entryEnv args) σ (retK CC 22 Try.f22 σ) :=
  evalF_succ Try.prog CC (fn := Try.f22) (N := 73) rfl Try.func22 body_22 rfl dst_22 name_22 h
theorem body_23 : Try.f23.body = some (Try.f23.body.getD .skip) := rfl
theorem dst_23 : dstOk 2 (Try.f23.body.getD .skip) = true := by kernel_rfl
theorem name_23 : (Try.f23.name != "runtime.NumGoroutine") = true := by kernel_rfl
theorem run_23 (d : Nat) (args : List AV) (σ : St) (h : args.length ≤ 2) : evalF Try.prog CC (d + 1) 23 args σ = evalCode CC (evalF Try.prog CC d) 23 (Try.f23.body.getD .skip) (entryEnv args) σ (retK CC 23 Try.f23 σ) :=
  evalF_succ Try.prog CC (fn := Try.f23) (N := 2) rfl Try.func23 body_23 rfl dst_23 name_23 h
theorem body_24 : Try.f24.body = some (Try.f24.body.getD .skip) := rfl
theorem dst_24 : dstOk 99 (Try.f24.body.getD .skip) = true := by kernel_rfl
theorem name_24 : (Try.f24.name != "runtime.NumGoroutine") = true := by kernel_rfl
theorem run_24 (d : Nat) (args : List AV) (σ : St) (h : args.length ≤ 99) : evalF Try.prog CC (d + 1) 24 args σ = evalCode CC (evalF Try.prog CC d) 24 (Try.f24.body.getD .skip) (entryEnv args) σ (retK CC 24 Try.f24 σ) :=
  evalF_succ Try.prog CC (fn := Try.f24) (N := 99) rfl Try.func24 body_24 rfl dst_24 name_24 h
theorem body_25 : Try.f25.body = some (Try.f25.body.getD .skip) := rfl
theorem dst_25 : dstOk 46 (Try.f25.body.getD .skip) = true := by kernel_rfl
theorem name_25 : (Try.f25.name != "runtime.NumGoroutine") = true := by kernel_rfl
theorem run_25 (d : Nat) (args : List AV) (σ : St) (h : args.length ≤ 46) : evalF Try.prog CC (d + 1) 25 args σ = evalCode CC (evalF Try.prog CC d) 25 (Try.f25.body.getD .skip) (entryEnv args) σ (retK CC 25 Try.f25 σ) :=
  evalF_succ Try.prog CC (fn := Try.f25) (N := 46) rfl Try.func25 body_25 rfl dst_25 name_25 h
theorem body_26 : Try.f26.body = some (Try.f26.body.getD .skip) := rfl
theorem dst_26 : dstOk 25 (Try.f26.body.getD .skip) = true := by kernel_rfl
theorem name_26 : (Try.f26.name != "runtime.NumGoroutine") = true := by kernel_rfl
theorem run_26 (d : Nat) (args : List AV) (σ : St) (h : args.length ≤ 25) : evalF Try.prog CC (d + 1) 26 args σ = evalCode CC (evalF Try.prog CC d) 26 (Try.f26.body.getD .skip) (entryEnv args) σ (retK CC 26 Try.f26 σ) :=
  evalF_succ Try.prog CC (fn := Try.f26) (N := 25) rfl Try.func26 body_26 rfl dst_26 name_26 h
theorem body_27 : Try.f27.body = some (Try.f27.body.getD .skip) := rfl
theorem dst_27 : dstOk 25 (Try.f27.body.getD .skip) = true := by kernel_rfl
theorem name_27 : (Try.f27.name != "runtime.NumGoroutine") = true := by kernel_rfl
theorem run_27 (d : Nat) (args : List AV) (σ : St) (h : args.length ≤ 25) : evalF Try.prog CC (d + 1) 27 args σ = evalCode CC (evalF Try.prog CC d) 27 (Try.f27.body.getD .skip) (entryEnv args) σ (retK CC 27 Try.f27 σ) :=
  evalF_succ Try.prog CC (fn := Try.f27) (N := 25) rfl Try.func27 body_27 rfl dst_27 name_27 h
theorem body_28 : Try.f28.body = some (Try.f28.body.getD .skip) := rfl
theorem dst_28 : dstOk 27 (Try.f28.body.getD .skip) = true := by kernel_rfl
theorem name_28 : (Try.f28.name != "runtime.NumGoroutine") = true := by kernel_rfl
theorem run_28 (d : Nat) (args : List AV) (σ : St) (h : args.length ≤ 27) : evalF Try.prog CC (d + 1) 28 args σ = evalCode CC (evalF Try.prog CC d) 28 (Try.f28.body.getD .skip) (entryEnv args) σ (retK CC 28 Try.f28 σ) :=
  evalF_succ Try.prog CC (fn := Try.f28) (N := 27) rfl Try.func28 body_28 rfl dst_28 name_28 h
theorem body_29 : Try.f29.body = some (Try.f29.body.getD .skip) := rfl
theorem dst_29 : dstOk 14 (Try.f29.body.getD .skip) = true := by kernel_rfl
theorem name_29 : (Try.f29.name != "runtime.NumGoroutine") = true := by kernel_rfl
theorem run_29 (d : Nat) (args : List AV) (σ : St) (h : args.length ≤ 14) : evalF Try.prog CC (d + 1) 29 args σ = evalCode CC (evalF Try.prog CC d) 29 (Try.f29.body.getD .skip) (entryEnv args) σ (retK CC 29 Try.f29 σ) :=
  evalF_succ Try.prog CC (fn := Try.f29) (N := 14) rfl Try.func29 body_29 rfl dst_29 name_29 h
theorem body_30 : Try.f30.body = some (Try.f30.body.getD .skip) := rfl
theorem dst_30 : dstOk 26 (Try.f30.body.getD .skip) = true := by kernel_rfl
theorem name_30 : (Try.f30.name != "runtime.NumGoroutine") = true := by kernel_rfl
theorem run_30 (d : Nat) (args : List AV) (σ : St) (h : args.length ≤ 26) : evalF Try.prog CC (d + 1) 30 args σ = evalCode CC (evalF Try.prog CC d) 30 (Try.f30.body.getD .skip) (entryEnv args) σ (retK CC 30 Try.f30 σ) :=
  evalF_succ Try.prog CC (fn := Try.f30) (N := 26) rfl Try.func30 body_30 rfl dst_30 name_30 h
theorem body_31 : Try.f31.body = some (Try.f31.body.getD .skip) := rfl
theorem dst_31 : dstOk 29 (Try.f31.body.getD .skip) = true := by kernel_rfl
theorem name_31 : (Try.f31.name != "runtime.NumGoroutine") = true := by kernel_rfl
theorem run_31 (d : Nat) (args : List AV) (σ : St) (h : args.length ≤ 29) : evalF Try.prog CC (d + 1) 31 args σ = evalCode CC (evalF Try.prog CC d) 31 (Try.f31.body.getD .skip) (entryEnv args) σ (retK CC 31 Try.f31 σ) :=
  evalF_succ Try.prog CC (fn := Try.f31) (N := 29) rfl Try.func31 body_31 rfl dst_31 name_31 h
theorem body_32 : Try.f32.body = some (Try.f32.body.getD .skip) := rfl
theorem dst_32 : dstOk 7 (Try.f32.body.getD .skip) = true := by kernel_rfl
theorem name_32 : (Try.f32.name != "runtime.NumGoroutine") = true := by kernel_rfl
theorem run_32 (d : Nat) (args : List AV) (σ : St) (h : args.length ≤ 7) : evalF Try.prog CC (d + 1) 32 args σ = evalCode CC (evalF Try.prog CC d) 32 (Try.f32.body.getD .skip) (entryEnv args) σ (retK CC 32 Try.f32 σ) :=
  evalF_succ Try.prog CC (fn := Try.f32) (N := 7) rfl Try.func32 body_32 rfl dst_32 name_32 h
theorem body_33 : Try.f33.body = some (Try.f33.body.getD .skip) := rfl
theorem dst_33 : dstOk 30 (Try.f33.body.getD .skip) = true := by kernel_rfl
theorem name_33 : (Try.f33.name != "runtime.NumGoroutine") = true := by kernel_rfl
theorem run_33 (d : Nat) (args : List AV) (σ : St) (h : args.length ≤ 30) : evalF Try.prog CC (d + 1) 33 args σ = evalCode CC (evalF Try.prog CC d) 33 (Try.f33.body.getD .skip) (entryEnv args) σ (retK CC 33 Try.f33 σ) :=
  evalF_succ Try.prog CC (fn := Try.f33) (N := 30) rfl Try.func33 body_33 rfl dst_33 name_33 h
theorem body_34 : Try.f34.body = some (Try.f34.body.getD .skip) := rfl
theorem dst_34 : dstOk 10 (Try.f34.body.getD .skip) = true := by kernel_rfl
theorem name_34 : (Try.f34.name != "runtime.NumGoroutine") = true := by kernel_rfl
theorem run_34 (d : Nat) (args : List AV) (σ : St) (h : args.length ≤ 10) : evalF Try.prog CC (d + 1) 34 args σ = evalCode CC (evalF Try.prog CC d) 34 (Try.f34.body.getD .skip) (entryEnv args) σ (retK CC 34 Try.f34 σ) :=
  evalF_succ Try.prog CC (fn := Try.f34) (N := 10) rfl Try.func34 body_34 rfl dst_34 name_34 h
theorem body_35 : Try.f35.body = some (Try.f35.body.getD .skip) := rfl
theorem dst_35 : dstOk 18 (Try.f35.body.getD .skip) = true := by kernel_rfl
theorem name_35 : (Try.f35.name != "runtime.NumGoroutine") = true := by kernel_rfl
theorem run_35 (d : Nat) (args : List AV) (σ : St) (h : args.length ≤ 18) : evalF Try.prog CC (d + 1) 35 args σ = evalCode CC (evalF Try.prog CC d) 35 (Try.f35.body.getD .skip) (entryEnv args) σ (retK CC 35 Try.f35 σ) :=
  evalF_succ Try.prog CC (fn := Try.f35) (N := 18) rfl Try.func35 body_35 rfl dst_35 name_35 h
theorem body_36 : Try.f36.body = some (Try.f36.body.getD .skip) := rfl
theorem dst_36 : dstOk 34 (Try.f36.body.getD .skip) = true := by kernel_rfl
theorem name_36 : (Try.f36.name != "runtime.NumGoroutine") = true := by kernel_rfl
theorem run_36 (d : Nat) (args : List AV) (σ : St) (h : args.length ≤ 34) : evalF Try.prog CC (d + 1) 36 args σ = evalCode CC (evalF Try.prog CC d) 36 (Try.f36.body.getD .skip) (entryEnv args) σ (retK CC 36 Try.f36 σ) :=
  evalF_succ Try.prog CC (fn := Try.f36) (N := 34) rfl Try.func36 body_36 rfl dst_36 name_36 h
theorem body_37 : Try.f37.body = some (Try.f37.body.getD .skip) := rfl
theorem dst_37 : dstOk 26 (Try.f37.body.getD .skip) = true := by kernel_rfl
theorem name_37 : (Try.f37.name != "runtime.NumGoroutine") = true := by kernel_rfl
theorem run_37 (d : Nat) (args : List AV) (σ : St) (h : args.length ≤ 26) : evalF Try.prog CC (d + 1) 37 args σ = evalCode CC (evalF Try.prog CC d) 37 (Try.f37.body.getD .skip) (entryEnv args) σ (retK CC 37 Try.f37 σ) :=
  evalF_succ Try.prog CC (fn := Try.f37) (N := 26) rfl Try.func37 body_37 rfl dst_37 name_37 h
theorem body_38 : Try.f38.body = some (Try.f38.body.getD .skip) := rfl
theorem dst_38 : dstOk 53 (Try.f38.body.getD .skip) = true := by kernel_rfl
theorem name_38 : (Try.f38.name != "runtime.NumGoroutine") = true := by kernel_rfl
theorem run_38 (d : Nat) (args : List AV) (σ : St) (h : args.length ≤ 53) : evalF Try.prog CC (d + 1) 38 args σ = evalCode CC (evalF Try.prog CC d) 38 (Try.f38.body.getD .skip) (entryEnv args) σ (retK CC 38 Try.f38 σ) :=
  evalF_succ Try.prog CC (fn := Try.f38) (N := 53) rfl Try.func38 body_38 rfl dst_38 name_38 h
theorem body_39 : Try.f39.body = some (Try.f39.body.getD .skip) := rfl
theorem dst_39 : dstOk 8 (Try.f39.body.getD .skip) = true := by kernel_rfl
theorem name_39 : (Try.f39.name != "runtime.NumGoroutine") = true := by kernel_rfl
theorem run_39 (d : Nat) (args : List AV) (σ : St) (h : args.length ≤ 8) : evalF Try.prog CC (d + 1) 39 args σ = evalCode CC (evalF Try.prog CC d) 39 (Try.f39.body.getD .skip) (entryEnv args) σ (retK CC 39 Try.f39 σ) :=
  evalF_succ Try.prog CC (fn := Try.f39) (N := 8) rfl Try.func39 body_39 rfl dst_39 name_39 h
theorem body_40 : Try.f40.body = some (Try.f40.body.getD .skip) := rfl
theorem dst_40 : dstOk 9 (Try.f40.body.getD .skip) = true := by kernel_rfl
theorem name_40 : (Try.f40.name != "runtime.NumGoroutine") = true := by kernel_rfl
theorem run_40 (d : Nat) (args : List AV) (σ : St) (h : args.length ≤ 9) : evalF Try.prog CC (d + 1) 40 args σ = evalCode CC (evalF Try.prog CC d) 40 (Try.f40.body.getD .skip) (entryEnv args) σ (retK CC 40 Try.f40 σ) :=
  evalF_succ Try.prog CC (fn := Try.f40) (N := 9) rfl Try.func40 body_40 rfl dst_40 name_40 h
theorem body_41 : Try.f41.body = some (Try.f41.body.getD .skip) := rfl
theorem dst_41 : dstOk 13 (Try.f41.body.getD .skip) = true := by kernel_rfl
theorem name_41 : (Try.f41.name != "runtime.NumGoroutine") = true := by kernel_rfl
theorem run_41 (d : Nat) (args : List AV) (σ : St) (h : args.length ≤ 13) : evalF Try.prog CC (d + 1) 41 args σ = evalCode CC (evalF Try.prog CC d) 41 (Try.f41.body.getD .skip) (entryEnv args) σ (retK CC 41 Try.f41 σ) :=
  evalF_succ Try.prog CC (fn := Try.f41) (N := 13) rfl Try.func41 body_41 rfl dst_41 name_41 h
theorem body_42 : Try.f42.body = some (Try.f42.body.getD .skip) := rfl
theorem dst_42 : dstOk 146 (Try.f42.body.getD .skip) = true := by kernel_rfl
theorem name_42 : (Try.f42.name != "runtime.NumGoroutine") = true := by kernel_rfl
theorem run_42 (d : Nat) (args : List AV) (σ : St) (h : args.length ≤ 146) : evalF Try.prog CC (d + 1) 42 args σ = evalCode CC (evalF Try.prog CC d) 42 (Try.f42.body.getD .skip) (entryEnv args) σ (retK CC 42 Try.f42 σ) :=
  evalF_succ Try.prog CC (fn := Try.f42) (N := 146) rfl Try.func42 body_42 rfl dst_42 name_42 h
theorem body_43 : Try.f43.body = some (Try.f43.body.getD .skip) := rfl
theorem dst_43 : dstOk 27 (Try.f43.body.getD .skip) = true := by kernel_rfl
theorem name_43 : (Try.f43.name != "runtime.NumGoroutine") = true := by kernel_rfl
theorem run_43 (d : Nat) (args : List AV) (σ : St) (h : args.length ≤ 27) : evalF Try.prog CC (d + 1) 43 args σ = evalCode CC (evalF Try.prog CC d) 43 (Try.f43.body.getD .skip) (entryEnv args) σ (retK CC 43 Try.f43 σ) :=
  evalF_succ Try.prog CC (fn := Try.f43) (N := 27) rfl Try.func43 body_43 rfl dst_43 name_43 h
theorem body_44 : Try.f44.body = some (Try.f44.body.getD .skip) := rfl
theorem dst_44 : dstOk 8 (Try.f44.body.getD .skip) = true := by kernel_rfl
theorem name_44 : (Try.f44.name != "runtime.NumGoroutine") = true := by kernel_rfl
theorem run_44 (d : Nat) (args : List AV) (σ : St) (h : args.length ≤ 8) : evalF Try.prog CC (d + 1) 44 args σ = evalCode CC (evalF Try.prog CC d) 44 (Try.f44.body.getD .skip) (entryEnv args) σ (retK CC 44 Try.f44 σ) :=
  evalF_succ Try.prog CC (fn := Try.f44) (N := 8) rfl Try.func44 body_44 rfl dst_44 name_44 h
theorem run_1000044 (d : Nat) (args : List AV) (σ : St) (h : args.length ≤ 8) : evalF Try.prog CC (d + 1) 1000044 args σ = evalCode CC (evalF Try.prog CC d) 1000044 (Try.f44.body.getD .skip) (entryEnv args) σ (retK CC 1000044 Try.f44 σ) :=
  evalF_succ Try.prog CC (fn := Try.f44) (N := 8) rfl Try.func44 body_44 rfl dst_44 name_44 h
theorem body_45 : Try.f45.body = some (Try.f45.body.getD .skip) := rfl
theorem dst_45 : dstOk 9 (Try.f45.body.getD .skip) = true := by kernel_rfl
theorem name_45 : (Try.f45.name != "runtime.NumGoroutine") = true := by kernel_rfl
theorem run_45 (d : Nat) (args : List AV) (σ : St) (h : args.length ≤ 9) : evalF Try.prog CC (d + 1) 45 args σ = evalCode CC (evalF Try.prog CC d) 45 (Try.f45.body.getD .skip) (entryEnv args) σ (retK CC 45 Try.f45 σ) :=
  evalF_succ Try.prog CC (fn := Try.f45) (N := 9) rfl Try.func45 body_45 rfl dst_45 name_45 h
theorem body_46 : Try.f46.body = some (Try.f46.body.getD .skip) := rfl
theorem dst_46 : dstOk 42 (Try.f46.body.getD .skip) = true := by kernel_rfl
theorem name_46 : (Try.f46.name != "runtime.NumGoroutine") = true := by kernel_rfl
theorem run_46 (d : Nat) (args : List AV) (σ : St) (h : args.length ≤ 42) : evalF Try.prog CC (d + 1) 46 args σ = evalCode CC (evalF Try.prog CC d) 46 (Try.f46.body.getD .skip) (entryEnv args) σ (retK CC 46 Try.f46 σ) :=
  evalF_succ Try.prog CC (fn := Try.f46) (N := 42) rfl Try.func46 body_46 rfl dst_46 name_46 h
theorem body_47 : Try.f47.body = some (Try.f47.body.getD .skip) := rfl
theorem dst_47 : dstOk 8 (Try.f47.body.getD .skip) = true := by kernel_rfl
theorem name_47 : (Try.f47.name != "runtime.NumGoroutine") = true := by kernel_rfl
theorem run_47 (d : Nat) (args : List AV) (σ : St) (h : args.length ≤ 8) : evalF Try.prog CC (d + 1) 47 args σ = evalCode CC (evalF Try.prog CC d) 47 (Try.f47.body.getD .skip) (entryEnv args) σ (retK CC 47 Try.f47 σ) :=
  evalF_succ Try.prog CC (fn := Try.f47) (N := 8) rfl Try.func47 body_47 rfl dst_47 name_47 h
theorem body_48 : Try.f48.body = some (Try.f48.body.getD .skip) := rfl
theorem dst_48 : dstOk 32 (Try.f48.body.getD .skip) = true := by kernel_rfl
theorem name_48 : (Try.f48.name != "runtime.NumGoroutine") = true := by kernel_rfl
theorem run_48 (d : Nat) (args : List AV) (σ : St) (h : args.length ≤ 32) : evalF Try.prog CC (d + 1) 48 args σ = evalCode CC (evalF Try.prog CC d) 48 (Try.f48.body.getD .skip) (entryEnv args) σ (retK CC 48 Try.f48 σ) :=
  evalF_succ Try.prog CC (fn := Try.f48) (N := 32) rfl Try.func48 body_48 rfl dst_48 name_48 h
theorem body_50 : Try.f50.body = some (Try.f50.body.getD .skip) := rfl
theorem dst_50 : dstOk 20 (Try.f50.body.getD .skip) = true := by kernel_rfl
theorem name_50 : (Try.f50.name != "runtime.NumGoroutine") = true := by kernel_rfl
theorem run_50 (d : Nat) (args : List AV) (σ : St) (h : args.length ≤ 20) : evalF Try.prog CC (d + 1) 50 args σ = evalCode CC (evalF Try.prog CC d) 50 (Try.f50.body.getD .skip) (entryEnv args) σ (retK CC 50 Try.f50 σ) :=
  evalF_succ Try.prog CC (fn := Try.f50) (N := 20) rfl Try.func50 body_50 rfl dst_50 name_50 h
theorem body_51 : Try.f51.body = some (Try.f51.body.getD .skip) := rfl
theorem dst_51 : dstOk 29 (Try.f51.body.getD .skip) = true := by kernel_rfl
theorem name_51 : (Try.f51.name != "runtime.NumGoroutine") = true := by kernel_rfl
theorem run_51 (d : Nat) (args : List AV) (σ : St) (h : args.length ≤ 29) : evalF Try.prog CC (d + 1) 51 args σ = evalCode CC (evalF Try.prog CC d) 51 (Try.f51.body.getD .skip) (entryEnv args) σ (retK CC 51 Try.f51 σ) :=
  evalF_succ Try.prog CC (fn := Try.f51) (N := 29) rfl Try.func51 body_51 rfl dst_51 name_51 h
theorem body_52 : Try.f52.body = some (Try.f52.body.getD .skip) := rfl
theorem dst_52 : dstOk 14 (Try.f52.body.getD .skip) = true := by kernel_rfl
theorem name_52 : (Try.f52.name != "runtime.NumGoroutine") = true := by kernel_rfl
theorem run_52 (d : Nat) (args : List AV) (σ : St) (h : args.length ≤ 14) : evalF Try.prog CC (d + 1) 52 args σ = evalCode CC (evalF Try.prog CC d) 52 (Try.f52.body.getD .skip) (entryEnv args) σ (retK CC 52 Try.f52 σ) :=
  evalF_succ Try.prog CC (fn := Try.f52) (N := 14) rfl Try.func52 body_52 rfl dst_52 name_52 h
theorem body_53 : Try.f53.body = some (Try.f53.body.getD .skip) := rfl
theorem dst_53 : dstOk 20 (Try.f53.body.getD .skip) = true := by kernel_rfl
theorem name_53 : (Try.f53.name != "runtime.NumGoroutine") = true := by kernel_rfl
theorem run_53 (d : Nat) (args : List AV) (σ : St) (h : args.length ≤ 20) : evalF Try.prog CC (d + 1) 53 args σ = evalCode CC (evalF Try.prog CC d) 53 (Try.f53.body.getD .skip) (entryEnv args) σ (retK CC 53 Try.f53 σ) :=
  evalF_succ Try.prog CC (fn := Try.f53) (N := 20) rfl Try.func53 body_53 rfl dst_53 name_53 h
theorem body_54 : Try.f54.body = some (Try.f54.body.getD .skip) := rfl
theorem dst_54 : dstOk 19 (Try.f54.body.getD .skip) = true := by kernel_rfl
theorem name_54 : (Try.f54.name != "runtime.NumGoroutine") = true := by kernel_rfl
theorem run_54 (d : Nat) (args : List AV) (σ : St) (h : args.length ≤ 19) : evalF Try.prog CC (d + 1) 54 args σ = evalCode CC (evalF Try.prog CC d) 54 (Try.f54.body.getD .skip) (entryEnv args) σ (retK CC 54 Try.f54 σ) :=
  evalF_succ Try.prog CC (fn := Try.f54) (N := 19) rfl Try.func54 body_54 rfl dst_54 name_54 h
theorem body_55 : Try.f55.body = some (Try.f55.body.getD .skip) := rfl
theorem dst_55 : dstOk 19 (Try.f55.body.getD .skip) = true := by kernel_rfl
theorem name_55 : (Try.f55.name != "runtime.NumGoroutine") = true := by kernel_rfl
theorem run_55 (d : Nat) (args : List AV) (σ : St) (h : args.length ≤ 19) : evalF Try.prog CC (d + 1) 55 args σ = evalCode CC (evalF Try.prog CC d) 55 (Try.f55.body.getD .skip) (entryEnv args) σ (retK CC 55 Try.f55 σ) :=
  evalF_succ Try.prog CC (fn := Try.f55) (N := 19) rfl Try.func55 body_55 rfl dst_55 name_55 h
end Go.Proofs.Ytdbpnkemlmagoaa.Va
