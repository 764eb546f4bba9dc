/- each function's place in the interpreter -/
import Derived.Test.YticlihmbikcohaaNinC
namespace Go.Proofs.Yticlihmbikcohaa.Va
open Go
set_option linter.unusedVariables false
theorem body_3 : Try.f3.body = some (Try.f3.body.getD .skip) := rfl
theorem dst_3 : dstOk 108 (Try.f3.body.getD .skip) = true := by kernel_rfl
theorem name_3 : (Try.f3.name != "runtime.NumGoroutine") = true := by kernel_rfl
theorem hasR_3 : hasR (Try.f3.body.getD .skip) = false := by kernel_rfl
theorem run_3 (d : Nat) (args : List AV) (σ : St) (h : args.length ≤ 108) : evalF Try.prog CC (d + 1) 3 args σ = evalCode CC (evalF Try.prog CC d) 3 (Try.f3.body.getD .skip) (entryEnv args) σ (retK CC 3 Try.f3 σ) :=
  evalF_succ Try.prog CC (fn := Try.f3) (N := 108) rfl Try.func3 body_3 rfl dst_3 name_3 hasR_3 h
theorem body_8 : Try.f8.body = some (Try.f8.body.getD .skip) := rfl
theorem dst_8 : dstOk 74 (Try.f8.body.getD .skip) = true := by kernel_rfl
theorem name_8 : (Try.f8.name != "runtime.NumGoroutine") = true := by kernel_rfl
theorem hasR_8 : hasR (Try.f8.body.getD .skip) = false := by kernel_rfl
theorem run_8 (d : Nat) (args : List AV) (σ : St) (h : args.length ≤ 74) : evalF Try.prog CC (d + 1) 8 args σ = evalCode CC (evalF Try.prog CC d) 8 (Try.f8.body.getD .skip) (entryEnv args) σ (retK CC 8 Try.f8 σ) :=
  evalF_succ Try.prog CC (fn := Try.f8) (N := 74) rfl Try.func8 body_8 rfl dst_8 name_8 hasR_8 h
theorem body_9 : Try.f9.body = some (Try.f9.body.getD .skip) := rfl
theorem dst_9 : dstOk 31 (Try.f9.body.getD .skip) = true := by kernel_rfl
theorem name_9 : (Try.f9.name != "runtime.NumGoroutine") = true := by kernel_rfl
theorem hasR_9 : hasR (Try.f9.body.getD .skip) = false := by kernel_rfl
theorem run_9 (d : Nat) (args : List AV) (σ : St) (h : args.length ≤ 31) : evalF Try.prog CC (d + 1) 9 args σ = evalCode CC (evalF Try.prog CC d) 9 (Try.f9.body.getD .skip) (entryEnv args) σ (retK CC 9 Try.f9 σ) :=
  evalF_succ Try.prog CC (fn := Try.f9) (N := 31) rfl Try.func9 body_9 rfl dst_9 name_9 hasR_9 h
theorem body_10 : Try.f10.body = some (Try.f10.body.getD .skip) := rfl
theorem dst_10 : dstOk 65 (Try.f10.body.getD .skip) = true := by kernel_rfl
theorem name_10 : (Try.f10.name != "runtime.NumGoroutine") = true := by kernel_rfl
theorem hasR_10 : hasR (Try.f10.body.getD .skip) = false := by kernel_rfl
theorem run_10 (d : Nat) (args : List AV) (σ : St) (h : args.length ≤ 65) : evalF Try.prog CC (d + 1) 10 args σ = evalCode CC (evalF Try.prog CC d) 10 (Try.f10.body.getD .skip) (entryEnv args) σ (retK CC 10 Try.f10 σ) :=
  evalF_succ Try.prog CC (fn := Try.f10) (N := 65) rfl Try.func10 body_10 rfl dst_10 name_10 hasR_10 h
theorem body_11 : Try.f11.body = some (Try.f11.body.getD .skip) := rfl
theorem dst_11 : dstOk 15 (Try.f11.body.getD .skip) = true := by kernel_rfl
theorem name_11 : (Try.f11.name != "runtime.NumGoroutine") = true := by kernel_rfl
theorem hasR_11 : hasR (Try.f11.body.getD .skip) = false := by kernel_rfl
theorem run_11 (d : Nat) (args : List AV) (σ : St) (h : args.length ≤ 15) : evalF Try.prog CC (d + 1) 11 args σ = evalCode CC (evalF Try.prog CC d) 11 (Try.f11.body.getD .skip) (entryEnv args) σ (retK CC 11 Try.f11 σ) :=
  evalF_succ Try.prog CC (fn := Try.f11) (N := 15) rfl Try.func11 body_11 rfl dst_11 name_11 hasR_11 h
theorem body_14 : Try.f14.body = some (Try.f14.body.getD .skip) := rfl
theorem dst_14 : dstOk 48 (Try.f14.body.getD .skip) = true := by kernel_rfl
theorem name_14 : (Try.f14.name != "runtime.NumGoroutine") = true := by kernel_rfl
theorem hasR_14 : hasR (Try.f14.body.getD .skip) = true := by kernel_rfl
theorem run_14 (d : Nat) (args : List AV) (σ : St) (h : args.length ≤ 48) : evalF Try.prog CC (d + 1) 14 args σ = evalR Try.prog CC (evalF Try.prog CC d) 14 (Try.f14.body.getD .skip) (entryEnv args) σ (retK CC 14 Try.f14 σ) :=
  evalF_succR Try.prog CC (fn := Try.f14) (N := 48) rfl Try.func14 body_14 rfl dst_14 name_14 hasR_14 h
theorem body_15 : Try.f15.body = some (Try.f15.body.getD .skip) := rfl
theorem dst_15 : dstOk 61 (Try.f15.body.getD .skip) = true := by kernel_rfl
theorem name_15 : (Try.f15.name != "runtime.NumGoroutine") = true := by kernel_rfl
theorem hasR_15 : hasR (Try.f15.body.getD .skip) = false := by kernel_rfl
theorem run_15 (d : Nat) (args : List AV) (σ : St) (h : args.length ≤ 61) : evalF Try.prog CC (d + 1) 15 args σ = evalCode CC (evalF Try.prog CC d) 15 (Try.f15.body.getD .skip) (entryEnv args) σ (retK CC 15 Try.f15 σ) :=
  evalF_succ Try.prog CC (fn := Try.f15) (N := 61) rfl Try.func15 body_15 rfl dst_15 name_15 hasR_15 h
theorem body_17 : Try.f17.body = some (Try.f17.body.getD .skip) := rfl
theorem dst_17 : dstOk 42 (Try.f17.body.getD .skip) = true := by kernel_rfl
theorem name_17 : (Try.f17.name != "runtime.NumGoroutine") = true := by kernel_rfl
theorem hasR_17 : hasR (Try.f17.body.getD .skip) = false := by kernel_rfl
theorem run_17 (d : Nat) (args : List AV) (σ : St) (h : args.length ≤ 42) : evalF Try.prog CC (d + 1) 17 args σ = evalCode CC (evalF Try.prog CC d) 17 (Try.f17.body.getD .skip) (entryEnv args) σ (retK CC 17 Try.f17 σ) :=
  evalF_succ Try.prog CC (fn := Try.f17) (N := 42) rfl Try.func17 body_17 rfl dst_17 name_17 hasR_17 h
theorem body_18 : Try.f18.body = some (Try.f18.body.getD .skip) := rfl
theorem dst_18 : dstOk 44 (Try.f18.body.getD .skip) = true := by kernel_rfl
theorem name_18 : (Try.f18.name != "runtime.NumGoroutine") = true := by kernel_rfl
theorem hasR_18 : hasR (Try.f18.body.getD .skip) = false := by kernel_rfl
theorem run_18 (d : Nat) (args : List AV) (σ : St) (h : args.length ≤ 44) : evalF Try.prog CC (d + 1) 18 args σ = evalCode CC (evalF Try.prog CC d) 18 (Try.f18.body.getD .skip) (entryEnv args) σ (retK CC 18 Try.f18 σ) :=
  evalF_succ Try.prog CC (fn := Try.f18) (N := 44) rfl Try.func18 body_18 rfl dst_18 name_18 hasR_18 h
theorem body_20 : Try.f20.body = some (Try.f20.body.getD .skip) := rfl
theorem dst_20 : dstOk 73 (Try.f20.body.getD .skip) = true := by kernel_rfl
theorem name_20 : (Try.f20.name != "runtime.NumGoroutine") = true := by kernel_rfl
theorem hasR_20 : hasR (Try.f20.body.getD .skip) = false := by kernel_rfl
theorem run_20 (d : Nat) (args : List AV) (σ : St) (h : args.length ≤ 73) : evalF Try.prog CC (d + 1) 20 args σ = evalCode CC (evalF Try.prog CC d) 20 (Try.f20.body.getD .skip) (entryEnv args) σ (retK CC 20 Try.f20 σ) :=
  evalF_succ Try.prog CC (fn := Try.f20) (N := 73) rfl Try.func20 body_20 rfl dst_20 name_20 hasR_20 h
theorem body_21 : Try.f21.body = some (Try.f21.body.getD .skip) := rfl
theorem dst_21 : dstOk 95 (Try.f21.body.getD .skip) = true := by kernel_rfl
theorem name_21 : (Try.f21.name != "runtime.NumGoroutine") = true := by kernel_rfl
theorem hasR_21 : hasR (Try.f21.body.getD .skip) = false := by kernel_rfl
theorem run_21 (d : Nat) (args : List AV) (σ : St) (h : args.length ≤ 95) : evalF Try.prog CC (d + 1) 21 args σ = evalCode CC (evalF Try.prog CC d) 21 (Try.f21.body.getD .skip) (entryEnv args) σ (retK CC 21 Try.f21 σ) :=
  evalF_succ Try.prog CC (fn := Try.f21) (N := 95) rfl Try.func21 body_21 rfl dst_21 name_21 hasR_21 h
theorem body_22 : Try.f22.body = some (Try.f22.body.getD .skip) := rfl
theorem dst_22 : dstOk 6 (Try.f22.body.getD .skip) = true := by kernel_rfl
theorem name_22 : (Try.f22.name != "runtime.NumGoroutine") = true := by kernel_rfl
theorem hasR_22 : hasR (Try.f22.body.getD .skip) = false := by kernel_rfl
theorem run_22 (d : Nat) (args : List AV) (σ : St) (h : args.length ≤ 6) : evalF Try.prog CC (d + 1) 22 args σ = evalCode CC (evalF Try.prog CC d) 22 (Try.f22.body.getD .skip) (entryEnv args) σ (retK CC 22 Try.f22 σ) :=
  evalF_succ Try.prog CC (fn := Try.f22) (N := 6) rfl Try.func22 body_22 rfl dst_22 name_22 hasR_22 h
theorem body_23 : Try.f23.body = some (Try.f23.body.getD .skip) := rfl
theorem dst_23 : dstOk 26 (Try.f23.body.getD .skip) = true := by kernel_rfl
theorem name_23 : (Try.f23.name != "runtime.NumGoroutine") = true := by kernel_rfl
theorem hasR_23 : hasR (Try.f23.body.getD .skip) = false := by kernel_rfl
theorem run_23 (d : Nat) (args : List AV) (σ : St) (h : args.length ≤ 26) : evalF Try.prog CC (d + 1) 23 args σ = evalCode CC (evalF Try.prog CC d) 23 (Try.f23.body.getD .skip) (entryEnv args) σ (retK CC 23 Try.f23 σ) :=
  evalF_succ Try.prog CC (fn := Try.f23) (N := 26) rfl Try.func23 body_23 rfl dst_23 name_23 hasR_23 h
theorem body_24 : Try.f24.body = some (Try.f24.body.getD .skip) := rfl
theorem dst_24 : dstOk 2 (Try.f24.body.getD .skip) = true := by kernel_rfl
theorem name_24 : (Try.f24.name != "runtime.NumGoroutine") = true := by kernel_rfl
theorem hasR_24 : hasR (Try.f24.body.getD .skip) = false := by kernel_rfl
theorem run_24 (d : Nat) (args : List AV) (σ : St) (h : args.length ≤ 2) : evalF Try.prog CC (d + 1) 24 args σ = evalCode CC (evalF Try.prog CC d) 24 (Try.f24.body.getD .skip) (entryEnv args) σ (retK CC 24 Try.f24 σ) :=
  evalF_succ Try.prog CC (fn := Try.f24) (N := 2) rfl Try.func24 body_24 rfl dst_24 name_24 hasR_24 h
theorem body_25 : Try.f25.body = some (Try.f25.body.getD .skip) := rfl
theorem dst_25 : dstOk 20 (Try.f25.body.getD .skip) = true := by kernel_rfl
theorem name_25 : (Try.f25.name != "runtime.NumGoroutine") = true := by kernel_rfl
theorem hasR_25 : hasR (Try.f25.body.getD .skip) = false := by kernel_rfl
theorem run_25 (d : Nat) (args : List AV) (σ : St) (h : args.length ≤ 20) : evalF Try.prog CC (d + 1) 25 args σ = evalCode CC (evalF Try.prog CC d) 25 (Try.f25.body.getD .skip) (entryEnv args) σ (retK CC 25 Try.f25 σ) :=
  evalF_succ Try.prog CC (fn := Try.f25) (N := 20) rfl Try.func25 body_25 rfl dst_25 name_25 hasR_25 h
theorem body_26 : Try.f26.body = some (Try.f26.body.getD .skip) := rfl
theorem dst_26 : dstOk 172 (Try.f26.body.getD .skip) = true := by kernel_rfl
theorem name_26 : (Try.f26.name != "runtime.NumGoroutine") = true := by kernel_rfl
theorem hasR_26 : hasR (Try.f26.body.getD .skip) = false := by kernel_rfl
theorem run_26 (d : Nat) (args : List AV) (σ : St) (h : args.length ≤ 172) : evalF Try.prog CC (d + 1) 26 args σ = evalCode CC (evalF Try.prog CC d) 26 (Try.f26.body.getD .skip) (entryEnv args) σ (retK CC 26 Try.f26 σ) :=
  evalF_succ Try.prog CC (fn := Try.f26) (N := 172) rfl Try.func26 body_26 rfl dst_26 name_26 hasR_26 h
theorem body_27 : Try.f27.body = some (Try.f27.body.getD .skip) := rfl
theorem dst_27 : dstOk 69 (Try.f27.body.getD .skip) = true := by kernel_rfl
theorem name_27 : (Try.f27.name != "runtime.NumGoroutine") = true := by kernel_rfl
theorem hasR_27 : hasR (Try.f27.body.getD .skip) = false := by kernel_rfl
theorem run_27 (d : Nat) (args : List AV) (σ : St) (h : args.length ≤ 69) : evalF Try.prog CC (d + 1) 27 args σ = evalCode CC (evalF Try.prog CC d) 27 (Try.f27.body.getD .skip) (entryEnv args) σ (retK CC 27 Try.f27 σ) :=
  evalF_succ Try.prog CC (fn := Try.f27) (N := 69) rfl Try.func27 body_27 rfl dst_27 name_27 hasR_27 h
theorem body_28 : Try.f28.body = some (Try.f28.body.getD .skip) := rfl
theorem dst_28 : dstOk 99 (Try.f28.body.getD .skip) = true := by kernel_rfl
theorem name_28 : (Try.f28.name != "runtime.NumGoroutine") = true := by kernel_rfl
theorem hasR_28 : hasR (Try.f28.body.getD .skip) = false := by kernel_rfl
theorem run_28 (d : Nat) (args : List AV) (σ : St) (h : args.length ≤ 99) : evalF Try.prog CC (d + 1) 28 args σ = evalCode CC (evalF Try.prog CC d) 28 (Try.f28.body.getD .skip) (entryEnv args) σ (retK CC 28 Try.f28 σ) :=
  evalF_succ Try.prog CC (fn := Try.f28) (N := 99) rfl Try.func28 body_28 rfl dst_28 name_28 hasR_28 h
theorem body_29 : Try.f29.body = some (Try.f29.body.getD .skip) := rfl
theorem dst_29 : dstOk 46 (Try.f29.body.getD .skip) = true := by kernel_rfl
theorem name_29 : (Try.f29.name != "runtime.NumGoroutine") = true := by kernel_rfl
theorem hasR_29 : hasR (Try.f29.body.getD .skip) = false := by kernel_rfl
theorem run_29 (d : Nat) (args : List AV) (σ : St) (h : args.length ≤ 46) : evalF Try.prog CC (d + 1) 29 args σ = evalCode CC (evalF Try.prog CC d) 29 (Try.f29.body.getD .skip) (entryEnv args) σ (retK CC 29 Try.f29 σ) :=
  evalF_succ Try.prog CC (fn := Try.f29) (N := 46) rfl Try.func29 body_29 rfl dst_29 name_29 hasR_29 h
theorem body_30 : Try.f30.body = some (Try.f30.body.getD .skip) := rfl
theorem dst_30 : dstOk 8 (Try.f30.body.getD .skip) = true := by kernel_rfl
theorem name_30 : (Try.f30.name != "runtime.NumGoroutine") = true := by kernel_rfl
theorem hasR_30 : hasR (Try.f30.body.getD .skip) = false := by kernel_rfl
theorem run_30 (d : Nat) (args : List AV) (σ : St) (h : args.length ≤ 8) : evalF Try.prog CC (d + 1) 30 args σ = evalCode CC (evalF Try.prog CC d) 30 (Try.f30.body.getD .skip) (entryEnv args) σ (retK CC 30 Try.f30 σ) :=
  evalF_succ Try.prog CC (fn := Try.f30) (N := 8) rfl Try.func30 body_30 rfl dst_30 name_30 hasR_30 h
theorem body_31 : Try.f31.body = some (Try.f31.body.getD .skip) := rfl
theorem dst_31 : dstOk 9 (Try.f31.body.getD .skip) = true := by kernel_rfl
theorem name_31 : (Try.f31.name != "runtime.NumGoroutine") = true := by kernel_rfl
theorem hasR_31 : hasR (Try.f31.body.getD .skip) = false := by kernel_rfl
theorem run_31 (d : Nat) (args : List AV) (σ : St) (h : args.length ≤ 9) : evalF Try.prog CC (d + 1) 31 args σ = evalCode CC (evalF Try.prog CC d) 31 (Try.f31.body.getD .skip) (entryEnv args) σ (retK CC 31 Try.f31 σ) :=
  evalF_succ Try.prog CC (fn := Try.f31) (N := 9) rfl Try.func31 body_31 rfl dst_31 name_31 hasR_31 h
theorem body_32 : Try.f32.body = some (Try.f32.body.getD .skip) := rfl
theorem dst_32 : dstOk 32 (Try.f32.body.getD .skip) = true := by kernel_rfl
theorem name_32 : (Try.f32.name != "runtime.NumGoroutine") = true := by kernel_rfl
theorem hasR_32 : hasR (Try.f32.body.getD .skip) = false := by kernel_rfl
theorem run_32 (d : Nat) (args : List AV) (σ : St) (h : args.length ≤ 32) : evalF Try.prog CC (d + 1) 32 args σ = evalCode CC (evalF Try.prog CC d) 32 (Try.f32.body.getD .skip) (entryEnv args) σ (retK CC 32 Try.f32 σ) :=
  evalF_succ Try.prog CC (fn := Try.f32) (N := 32) rfl Try.func32 body_32 rfl dst_32 name_32 hasR_32 h
theorem body_33 : Try.f33.body = some (Try.f33.body.getD .skip) := rfl
theorem dst_33 : dstOk 12 (Try.f33.body.getD .skip) = true := by kernel_rfl
theorem name_33 : (Try.f33.name != "runtime.NumGoroutine") = true := by kernel_rfl
theorem hasR_33 : hasR (Try.f33.body.getD .skip) = false := by kernel_rfl
theorem run_33 (d : Nat) (args : List AV) (σ : St) (h : args.length ≤ 12) : evalF Try.prog CC (d + 1) 33 args σ = evalCode CC (evalF Try.prog CC d) 33 (Try.f33.body.getD .skip) (entryEnv args) σ (retK CC 33 Try.f33 σ) :=
  evalF_succ Try.prog CC (fn := Try.f33) (N := 12) rfl Try.func33 body_33 rfl dst_33 name_33 hasR_33 h
theorem body_34 : Try.f34.body = some (Try.f34.body.getD .skip) := rfl
theorem dst_34 : dstOk 15 (Try.f34.body.getD .skip) = true := by kernel_rfl
theorem name_34 : (Try.f34.name != "runtime.NumGoroutine") = true := by kernel_rfl
theorem hasR_34 : hasR (Try.f34.body.getD .skip) = false := by kernel_rfl
theorem run_34 (d : Nat) (args : List AV) (σ : St) (h : args.length ≤ 15) : evalF Try.prog CC (d + 1) 34 args σ = evalCode CC (evalF Try.prog CC d) 34 (Try.f34.body.getD .skip) (entryEnv args) σ (retK CC 34 Try.f34 σ) :=
  evalF_succ Try.prog CC (fn := Try.f34) (N := 15) rfl Try.func34 body_34 rfl dst_34 name_34 hasR_34 h
theorem body_36 : Try.f36.body = some (Try.f36.body.getD .skip) := rfl
theorem dst_36 : dstOk 50 (Try.f36.body.getD .skip) = true := by kernel_rfl
theorem name_36 : (Try.f36.name != "runtime.NumGoroutine") = true := by kernel_rfl
theorem hasR_36 : hasR (Try.f36.body.getD .skip) = false := by kernel_rfl
theorem run_36 (d : Nat) (args : List AV) (σ : St) (h : args.length ≤ 50) : evalF Try.prog CC (d + 1) 36 args σ = evalCode CC (evalF Try.prog CC d) 36 (Try.f36.body.getD .skip) (entryEnv args) σ (retK CC 36 Try.f36 σ) :=
  evalF_succ Try.prog CC (fn := Try.f36) (N := 50) rfl Try.func36 body_36 rfl dst_36 name_36 hasR_36 h
theorem body_37 : Try.f37.body = some (Try.f37.body.getD .skip) := rfl
theorem dst_37 : dstOk 5 (Try.f37.body.getD .skip) = true := by kernel_rfl
theorem name_37 : (Try.f37.name != "runtime.NumGoroutine") = true := by kernel_rfl
theorem hasR_37 : hasR (Try.f37.body.getD .skip) = false := by kernel_rfl
theorem run_37 (d : Nat) (args : List AV) (σ : St) (h : args.length ≤ 5) : evalF Try.prog CC (d + 1) 37 args σ = evalCode CC (evalF Try.prog CC d) 37 (Try.f37.body.getD .skip) (entryEnv args) σ (retK CC 37 Try.f37 σ) :=
  evalF_succ Try.prog CC (fn := Try.f37) (N := 5) rfl Try.func37 body_37 rfl dst_37 name_37 hasR_37 h
theorem body_38 : Try.f38.body = some (Try.f38.body.getD .skip) := rfl
theorem dst_38 : dstOk 6 (Try.f38.body.getD .skip) = true := by kernel_rfl
theorem name_38 : (Try.f38.name != "runtime.NumGoroutine") = true := by kernel_rfl
theorem hasR_38 : hasR (Try.f38.body.getD .skip) = false := by kernel_rfl
theorem run_38 (d : Nat) (args : List AV) (σ : St) (h : args.length ≤ 6) : evalF Try.prog CC (d + 1) 38 args σ = evalCode CC (evalF Try.prog CC d) 38 (Try.f38.body.getD .skip) (entryEnv args) σ (retK CC 38 Try.f38 σ) :=
  evalF_succ Try.prog CC (fn := Try.f38) (N := 6) rfl Try.func38 body_38 rfl dst_38 name_38 hasR_38 h
theorem body_39 : Try.f39.body = some (Try.f39.body.getD .skip) := rfl
theorem dst_39 : dstOk 6 (Try.f39.body.getD .skip) = true := by kernel_rfl
theorem name_39 : (Try.f39.name != "runtime.NumGoroutine") = true := by kernel_rfl
theorem hasR_39 : hasR (Try.f39.body.getD .skip) = false := by kernel_rfl
theorem run_39 (d : Nat) (args : List AV) (σ : St) (h : args.length ≤ 6) : evalF Try.prog CC (d + 1) 39 args σ = evalCode CC (evalF Try.prog CC d) 39 (Try.f39.body.getD .skip) (entryEnv args) σ (retK CC 39 Try.f39 σ) :=
  evalF_succ Try.prog CC (fn := Try.f39) (N := 6) rfl Try.func39 body_39 rfl dst_39 name_39 hasR_39 h
theorem body_40 : Try.f40.body = some (Try.f40.body.getD .skip) := rfl
theorem dst_40 : dstOk 49 (Try.f40.body.getD .skip) = true := by kernel_rfl
theorem name_40 : (Try.f40.name != "runtime.NumGoroutine") = true := by kernel_rfl
theorem hasR_40 : hasR (Try.f40.body.getD .skip) = false := by kernel_rfl
theorem run_40 (d : Nat) (args : List AV) (σ : St) (h : args.length ≤ 49) : evalF Try.prog CC (d + 1) 40 args σ = evalCode CC (evalF Try.prog CC d) 40 (Try.f40.body.getD .skip) (entryEnv args) σ (retK CC 40 Try.f40 σ) :=
  evalF_succ Try.prog CC (fn := Try.f40) (N := 49) rfl Try.func40 body_40 rfl dst_40 name_40 hasR_40 h
theorem body_43 : Try.f43.body = some (Try.f43.body.getD .skip) := rfl
theorem dst_43 : dstOk 113 (Try.f43.body.getD .skip) = true := by kernel_rfl
theorem name_43 : (Try.f43.name != "runtime.NumGoroutine") = true := by kernel_rfl
theorem hasR_43 : hasR (Try.f43.body.getD .skip) = false := by kernel_rfl
theorem run_43 (d : Nat) (args : List AV) (σ : St) (h : args.length ≤ 113) : evalF Try.prog CC (d + 1) 43 args σ = evalCode CC (evalF Try.prog CC d) 43 (Try.f43.body.getD .skip) (entryEnv args) σ (retK CC 43 Try.f43 σ) :=
  evalF_succ Try.prog CC (fn := Try.f43) (N := 113) rfl Try.func43 body_43 rfl dst_43 name_43 hasR_43 h
theorem body_44 : Try.f44.body = some (Try.f44.body.getD .skip) := rfl
theorem dst_44 : dstOk 23 (Try.f44.body.getD .skip) = true := by kernel_rfl
theorem name_44 : (Try.f44.name != "runtime.NumGoroutine") = true := by kernel_rfl
theorem hasR_44 : hasR (Try.f44.body.getD .skip) = false := by kernel_rfl
theorem run_44 (d : Nat) (args : List AV) (σ : St) (h : args.length ≤ 23) : evalF Try.prog CC (d + 1) 44 args σ = evalCode CC (evalF Try.prog CC d) 44 (Try.f44.body.getD .skip) (entryEnv args) σ (retK CC 44 Try.f44 σ) :=
  evalF_succ Try.prog CC (fn := Try.f44) (N := 23) rfl Try.func44 body_44 rfl dst_44 name_44 hasR_44 h
theorem body_45 : Try.f45.body = some (Try.f45.body.getD .skip) := rfl
theorem dst_45 : dstOk 26 (Try.f45.body.getD .skip) = true := by kernel_rfl
theorem name_45 : (Try.f45.name != "runtime.NumGoroutine") = true := by kernel_rfl
theorem hasR_45 : hasR (Try.f45.body.getD .skip) = false := by kernel_rfl
theorem run_45 (d : Nat) (args : List AV) (σ : St) (h : args.length ≤ 26) : evalF Try.prog CC (d + 1) 45 args σ = evalCode CC (evalF Try.prog CC d) 45 (Try.f45.body.getD .skip) (entryEnv args) σ (retK CC 45 Try.f45 σ) :=
  evalF_succ Try.prog CC (fn := Try.f45) (N := 26) rfl Try.func45 body_45 rfl dst_45 name_45 hasR_45 h
theorem body_46 : Try.f46.body = some (Try.f46.body.getD .skip) := rfl
theorem dst_46 : dstOk 72 (Try.f46.body.getD .skip) = true := by kernel_rfl
theorem name_46 : (Try.f46.name != "runtime.NumGoroutine") = true := by kernel_rfl
theorem hasR_46 : hasR (Try.f46.body.getD .skip) = false := by kernel_rfl
theorem run_46 (d : Nat) (args : List AV) (σ : St) (h : args.length ≤ 72) : evalF Try.prog CC (d + 1) 46 args σ = evalCode CC (evalF Try.prog CC d) 46 (Try.f46.body.getD .skip) (entryEnv args) σ (retK CC 46 Try.f46 σ) :=
  evalF_succ Try.prog CC (fn := Try.f46) (N := 72) rfl Try.func46 body_46 rfl dst_46 name_46 hasR_46 h
theorem body_47 : Try.f47.body = some (Try.f47.body.getD .skip) := rfl
theorem dst_47 : dstOk 13 (Try.f47.body.getD .skip) = true := by kernel_rfl
theorem name_47 : (Try.f47.name != "runtime.NumGoroutine") = true := by kernel_rfl
theorem hasR_47 : hasR (Try.f47.body.getD .skip) = false := by kernel_rfl
theorem run_47 (d : Nat) (args : List AV) (σ : St) (h : args.length ≤ 13) : evalF Try.prog CC (d + 1) 47 args σ = evalCode CC (evalF Try.prog CC d) 47 (Try.f47.body.getD .skip) (entryEnv args) σ (retK CC 47 Try.f47 σ) :=
  evalF_succ Try.prog CC (fn := Try.f47) (N := 13) rfl Try.func47 body_47 rfl dst_47 name_47 hasR_47 h
theorem body_48 : Try.f48.body = some (Try.f48.body.getD .skip) := rfl
theorem dst_48 : dstOk 146 (Try.f48.body.getD .skip) = true := by kernel_rfl
theorem name_48 : (Try.f48.name != "runtime.NumGoroutine") = true := by kernel_rfl
theorem hasR_48 : hasR (Try.f48.body.getD .skip) = false := by kernel_rfl
theorem run_48 (d : Nat) (args : List AV) (σ : St) (h : args.length ≤ 146) : evalF Try.prog CC (d + 1) 48 args σ = evalCode CC (evalF Try.prog CC d) 48 (Try.f48.body.getD .skip) (entryEnv args) σ (retK CC 48 Try.f48 σ) :=
  evalF_succ Try.prog CC (fn := Try.f48) (N := 146) rfl Try.func48 body_48 rfl dst_48 name_48 hasR_48 h
theorem body_49 : Try.f49.body = some (Try.f49.body.getD .skip) := rfl
theorem dst_49 : dstOk 27 (Try.f49.body.getD .skip) = true := by kernel_rfl
theorem name_49 : (Try.f49.name != "runtime.NumGoroutine") = true := by kernel_rfl
theorem hasR_49 : hasR (Try.f49.body.getD .skip) = false := by kernel_rfl
theorem run_49 (d : Nat) (args : List AV) (σ : St) (h : args.length ≤ 27) : evalF Try.prog CC (d + 1) 49 args σ = evalCode CC (evalF Try.prog CC d) 49 (Try.f49.body.getD .skip) (entryEnv args) σ (retK CC 49 Try.f49 σ) :=
  evalF_succ Try.prog CC (fn := Try.f49) (N := 27) rfl Try.func49 body_49 rfl dst_49 name_49 hasR_49 h
theorem body_50 : Try.f50.body = some (Try.f50.body.getD .skip) := rfl
theorem dst_50 : dstOk 9 (Try.f50.body.getD .skip) = true := by kernel_rfl
theorem name_50 : (Try.f50.name != "runtime.NumGoroutine") = true := by kernel_rfl
theorem hasR_50 : hasR (Try.f50.body.getD .skip) = false := by kernel_rfl
theorem run_50 (d : Nat) (args : List AV) (σ : St) (h : args.length ≤ 9) : evalF Try.prog CC (d + 1) 50 args σ = evalCode CC (evalF Try.prog CC d) 50 (Try.f50.body.getD .skip) (entryEnv args) σ (retK CC 50 Try.f50 σ) :=
  evalF_succ Try.prog CC (fn := Try.f50) (N := 9) rfl Try.func50 body_50 rfl dst_50 name_50 hasR_50 h
theorem body_51 : Try.f51.body = some (Try.f51.body.getD .skip) := rfl
theorem dst_51 : dstOk 6 (Try.f51.body.getD .skip) = true := by kernel_rfl
theorem name_51 : (Try.f51.name != "runtime.NumGoroutine") = true := by kernel_rfl
theorem hasR_51 : hasR (Try.f51.body.getD .skip) = false := by kernel_rfl
theorem run_51 (d : Nat) (args : List AV) (σ : St) (h : args.length ≤ 6) : evalF Try.prog CC (d + 1) 51 args σ = evalCode CC (evalF Try.prog CC d) 51 (Try.f51.body.getD .skip) (entryEnv args) σ (retK CC 51 Try.f51 σ) :=
  evalF_succ Try.prog CC (fn := Try.f51) (N := 6) rfl Try.func51 body_51 rfl dst_51 name_51 hasR_51 h
theorem body_52 : Try.f52.body = some (Try.f52.body.getD .skip) := rfl
theorem dst_52 : dstOk 8 (Try.f52.body.getD .skip) = true := by kernel_rfl
theorem name_52 : (Try.f52.name != "runtime.NumGoroutine") = true := by kernel_rfl
theorem hasR_52 : hasR (Try.f52.body.getD .skip) = false := by kernel_rfl
theorem run_52 (d : Nat) (args : List AV) (σ : St) (h : args.length ≤ 8) : evalF Try.prog CC (d + 1) 52 args σ = evalCode CC (evalF Try.prog CC d) 52 (Try.f52.body.getD .skip) (entryEnv args) σ (retK CC 52 Try.f52 σ) :=
  evalF_succ Try.prog CC (fn := Try.f52) (N := 8) rfl Try.func52 body_52 rfl dst_52 name_52 hasR_52 h
theorem body_53 : Try.f53.body = some (Try.f53.body.getD .skip) := rfl
theorem dst_53 : dstOk 128 (Try.f53.body.getD .skip) = true := by kernel_rfl
theorem name_53 : (Try.f53.name != "runtime.NumGoroutine") = true := by kernel_rfl
theorem hasR_53 : hasR (Try.f53.body.getD .skip) = false := by kernel_rfl
theorem run_53 (d : Nat) (args : List AV) (σ : St) (h : args.length ≤ 128) : evalF Try.prog CC (d + 1) 53 args σ = evalCode CC (evalF Try.prog CC d) 53 (Try.f53.body.getD .skip) (entryEnv args) σ (retK CC 53 Try.f53 σ) :=
  evalF_succ Try.prog CC (fn := Try.f53) (N := 128) rfl Try.func53 body_53 rfl dst_53 name_53 hasR_53 h
theorem body_58 : Try.f58.body = some (Try.f58.body.getD .skip) := rfl
theorem dst_58 : dstOk 79 (Try.f58.body.getD .skip) = true := by kernel_rfl
theorem name_58 : (Try.f58.name != "runtime.NumGoroutine") = true := by kernel_rfl
theorem hasR_58 : hasR (Try.f58.body.getD .skip) = false := by kernel_rfl
theorem run_58 (d : Nat) (args : List AV) (σ : St) (h : args.length ≤ 79) : evalF Try.prog CC (d + 1) 58 args σ = evalCode CC (evalF Try.prog CC d) 58 (Try.f58.body.getD .skip) (entryEnv args) σ (retK CC 58 Try.f58 σ) :=
  evalF_succ Try.prog CC (fn := Try.f58) (N := 79) rfl Try.func58 body_58 rfl dst_58 name_58 hasR_58 h
theorem body_59 : Try.f59.body = some (Try.f59.body.getD .skip) := rfl
theorem dst_59 : dstOk 63 (Try.f59.body.getD .skip) = true := by kernel_rfl
theorem name_59 : (Try.f59.name != "runtime.NumGoroutine") = true := by kernel_rfl
theorem hasR_59 : hasR (Try.f59.body.getD .skip) = false := by kernel_rfl
theorem run_59 (d : Nat) (args : List AV) (σ : St) (h : args.length ≤ 63) : evalF Try.prog CC (d + 1) 59 args σ = evalCode CC (evalF Try.prog CC d) 59 (Try.f59.body.getD .skip) (entryEnv args) σ (retK CC 59 Try.f59 σ) :=
  evalF_succ Try.prog CC (fn := Try.f59) (N := 63) rfl Try.func59 body_59 rfl dst_59 name_59 hasR_59 h
theorem body_60 : Try.f60.body = some (Try.f60.body.getD .skip) := rfl
theorem dst_60 : dstOk 140 (Try.f60.body.getD .skip) = true := by kernel_rfl
theorem name_60 : (Try.f60.name != "runtime.NumGoroutine") = true := by kernel_rfl
theorem hasR_60 : hasR (Try.f60.body.getD .skip) = false := by kernel_rfl
theorem run_60 (d : Nat) (args : List AV) (σ : St) (h : args.length ≤ 140) : evalF Try.prog CC (d + 1) 60 args σ = evalCode CC (evalF Try.prog CC d) 60 (Try.f60.body.getD .skip) (entryEnv args) σ (retK CC 60 Try.f60 σ) :=
  evalF_succ Try.prog CC (fn := Try.f60) (N := 140) rfl Try.func60 body_60 rfl dst_60 name_60 hasR_60 h
theorem body_61 : Try.f61.body = some (Try.f61.body.getD .skip) := rfl
theorem dst_61 : dstOk 25 (Try.f61.body.getD .skip) = true := by kernel_rfl
theorem name_61 : (Try.f61.name != "runtime.NumGoroutine") = true := by kernel_rfl
theorem hasR_61 : hasR (Try.f61.body.getD .skip) = false := by kernel_rfl
theorem run_61 (d : Nat) (args : List AV) (σ : St) (h : args.length ≤ 25) : evalF Try.prog CC (d + 1) 61 args σ = evalCode CC (evalF Try.prog CC d) 61 (Try.f61.body.getD .skip) (entryEnv args) σ (retK CC 61 Try.f61 σ) :=
  evalF_succ Try.prog CC (fn := Try.f61) (N := 25) rfl Try.func61 body_61 rfl dst_61 name_61 hasR_61 h
theorem body_62 : Try.f62.body = some (Try.f62.body.getD .skip) := rfl
theorem dst_62 : dstOk 114 (Try.f62.body.getD .skip) = true := by kernel_rfl
theorem name_62 : (Try.f62.name != "runtime.NumGoroutine") = true := by kernel_rfl
theorem hasR_62 : hasR (Try.f62.body.getD .skip) = false := by kernel_rfl
theorem run_62 (d : Nat) (args : List AV) (σ : St) (h : args.length ≤ 114) : evalF Try.prog CC (d + 1) 62 args σ = evalCode CC (evalF Try.prog CC d) 62 (Try.f62.body.getD .skip) (entryEnv args) σ (retK CC 62 Try.f62 σ) :=
  evalF_succ Try.prog CC (fn := Try.f62) (N := 114) rfl Try.func62 body_62 rfl dst_62 name_62 hasR_62 h
theorem body_63 : Try.f63.body = some (Try.f63.body.getD .skip) := rfl
theorem dst_63 : dstOk 125 (Try.f63.body.getD .skip) = true := by kernel_rfl
theorem name_63 : (Try.f63.name != "runtime.NumGoroutine") = true := by kernel_rfl
theorem hasR_63 : hasR (Try.f63.body.getD .skip) = false := by kernel_rfl
theorem run_63 (d : Nat) (args : List AV) (σ : St) (h : args.length ≤ 125) : evalF Try.prog CC (d + 1) 63 args σ = evalCode CC (evalF Try.prog CC d) 63 (Try.f63.body.getD .skip) (entryEnv args) σ (retK CC 63 Try.f63 σ) :=
  evalF_succ Try.prog CC (fn := Try.f63) (N := 125) rfl Try.func63 body_63 rfl dst_63 name_63 hasR_63 h
theorem body_64 : Try.f64.body = some (Try.f64.body.getD .skip) := rfl
theorem dst_64 : dstOk 26 (Try.f64.body.getD .skip) = true := by kernel_rfl
theorem name_64 : (Try.f64.name != "runtime.NumGoroutine") = true := by kernel_rfl
theorem hasR_64 : hasR (Try.f64.body.getD .skip) = false := by kernel_rfl
theorem run_64 (d : Nat) (args : List AV) (σ : St) (h : args.length ≤ 26) : evalF Try.prog CC (d + 1) 64 args σ = evalCode CC (evalF Try.prog CC d) 64 (Try.f64.body.getD .skip) (entryEnv args) σ (retK CC 64 Try.f64 σ) :=
  evalF_succ Try.prog CC (fn := Try.f64) (N := 26) rfl Try.func64 body_64 rfl dst_64 name_64 hasR_64 h
theorem body_65 : Try.f65.body = some (Try.f65.body.getD .skip) := rfl
theorem dst_65 : dstOk 5 (Try.f65.body.getD .skip) = true := by kernel_rfl
theorem name_65 : (Try.f65.name != "runtime.NumGoroutine") = true := by kernel_rfl
theorem hasR_65 : hasR (Try.f65.body.getD .skip) = false := by kernel_rfl
theorem run_65 (d : Nat) (args : List AV) (σ : St) (h : args.length ≤ 5) : evalF Try.prog CC (d + 1) 65 args σ = evalCode CC (evalF Try.prog CC d) 65 (Try.f65.body.getD .skip) (entryEnv args) σ (retK CC 65 Try.f65 σ) :=
  evalF_succ Try.prog CC (fn := Try.f65) (N := 5) rfl Try.func65 body_65 rfl dst_65 name_65 hasR_65 h
theorem body_66 : Try.f66.body = some (Try.f66.body.getD .skip) := rfl
theorem dst_66 : dstOk 9 (Try.f66.body.getD .skip) = true := by kernel_rfl
theorem name_66 : (Try.f66.name != "runtime.NumGoroutine") = true := by kernel_rfl
theorem hasR_66 : hasR (Try.f66.body.getD .skip) = false := by kernel_rfl
theorem run_66 (d : Nat) (args : List AV) (σ : St) (h : args.length ≤ 9) : evalF Try.prog CC (d + 1) 66 args σ = evalCode CC (evalF Try.prog CC d) 66 (Try.f66.body.getD .skip) (entryEnv args) σ (retK CC 66 Try.f66 σ) :=
  evalF_succ Try.prog CC (fn := Try.f66) (N := 9) rfl Try.func66 body_66 rfl dst_66 name_66 hasR_66 h
theorem body_68 : Try.f68.body = some (Try.f68.body.getD .skip) := rfl
theorem dst_68 : dstOk 20 (Try.f68.body.getD .skip) = true := by kernel_rfl
theorem name_68 : (Try.f68.name != "runtime.NumGoroutine") = true := by kernel_rfl
theorem hasR_68 : hasR (Try.f68.body.getD .skip) = false := by kernel_rfl
theorem run_68 (d : Nat) (args : List AV) (σ : St) (h : args.length ≤ 20) : evalF Try.prog CC (d + 1) 68 args σ = evalCode CC (evalF Try.prog CC d) 68 (Try.f68.body.getD .skip) (entryEnv args) σ (retK CC 68 Try.f68 σ) :=
  evalF_succ Try.prog CC (fn := Try.f68) (N := 20) rfl Try.func68 body_68 rfl dst_68 name_68 hasR_68 h
theorem body_69 : Try.f69.body = some (Try.f69.body.getD .skip) := rfl
theorem dst_69 : dstOk 29 (Try.f69.body.getD .skip) = true := by kernel_rfl
theorem name_69 : (Try.f69.name != "runtime.NumGoroutine") = true := by kernel_rfl
theorem hasR_69 : hasR (Try.f69.body.getD .skip) = false := by kernel_rfl
theorem run_69 (d : Nat) (args : List AV) (σ : St) (h : args.length ≤ 29) : evalF Try.prog CC (d + 1) 69 args σ = evalCode CC (evalF Try.prog CC d) 69 (Try.f69.body.getD .skip) (entryEnv args) σ (retK CC 69 Try.f69 σ) :=
  evalF_succ Try.prog CC (fn := Try.f69) (N := 29) rfl Try.func69 body_69 rfl dst_69 name_69 hasR_69 h
theorem body_70 : Try.f70.body = some (Try.f70.body.getD .skip) := rfl
theorem dst_70 : dstOk 14 (Try.f70.body.getD .skip) = true := by kernel_rfl
theorem name_70 : (Try.f70.name != "runtime.NumGoroutine") = true := by kernel_rfl
theorem hasR_70 : hasR (Try.f70.body.getD .skip) = false := by kernel_rfl
theorem run_70 (d : Nat) (args : List AV) (σ : St) (h : args.length ≤ 14) : evalF Try.prog CC (d + 1) 70 args σ = evalCode CC (evalF Try.prog CC d) 70 (Try.f70.body.getD .skip) (entryEnv args) σ (retK CC 70 Try.f70 σ) :=
  evalF_succ Try.prog CC (fn := Try.f70) (N := 14) rfl Try.func70 body_70 rfl dst_70 name_70 hasR_70 h
theorem body_71 : Try.f71.body = some (Try.f71.body.getD .skip) := rfl
theorem dst_71 : dstOk 20 (Try.f71.body.getD .skip) = true := by kernel_rfl
theorem name_71 : (Try.f71.name != "runtime.NumGoroutine") = true := by kernel_rfl
theorem hasR_71 : hasR (Try.f71.body.getD .skip) = false := by kernel_rfl
theorem run_71 (d : Nat) (args : List AV) (σ : St) (h : args.length ≤ 20) : evalF Try.prog CC (d + 1) 71 args σ = evalCode CC (evalF Try.prog CC d) 71 (Try.f71.body.getD .skip) (entryEnv args) σ (retK CC 71 Try.f71 σ) :=
  evalF_succ Try.prog CC (fn := Try.f71) (N := 20) rfl Try.func71 body_71 rfl dst_71 name_71 hasR_71 h
theorem body_72 : Try.f72.body = some (Try.f72.body.getD .skip) := rfl
theorem dst_72 : dstOk 19 (Try.f72.body.getD .skip) = true := by kernel_rfl
theorem name_72 : (Try.f72.name != "runtime.NumGoroutine") = true := by kernel_rfl
theorem hasR_72 : hasR (Try.f72.body.getD .skip) = false := by kernel_rfl
theorem run_72 (d : Nat) (args : List AV) (σ : St) (h : args.length ≤ 19) : evalF Try.prog CC (d + 1) 72 args σ = evalCode CC (evalF Try.prog CC d) 72 (Try.f72.body.getD .skip) (entryEnv args) σ (retK CC 72 Try.f72 σ) :=
  evalF_succ Try.prog CC (fn := Try.f72) (N := 19) rfl Try.func72 body_72 rfl dst_72 name_72 hasR_72 h
theorem body_74 : Try.f74.body = some (Try.f74.body.getD .skip) := rfl
theorem dst_74 : dstOk 51 (Try.f74.body.getD .skip) = true := by kernel_rfl
theorem name_74 : (Try.f74.name != "runtime.NumGoroutine") = true := by kernel_rfl
theorem hasR_74 : hasR (Try.f74.body.getD .skip) = false := by kernel_rfl
theorem run_74 (d : Nat) (args : List AV) (σ : St) (h : args.length ≤ 51) : evalF Try.prog CC (d + 1) 74 args σ = evalCode CC (evalF Try.prog CC d) 74 (Try.f74.body.getD .skip) (entryEnv args) σ (retK CC 74 Try.f74 σ) :=
  evalF_succ Try.prog CC (fn := Try.f74) (N := 51) rfl Try.func74 body_74 rfl dst_74 name_74 hasR_74 h
theorem body_75 : Try.f75.body = some (Try.f75.body.getD .skip) := rfl
theorem dst_75 : dstOk 31 (Try.f75.body.getD .skip) = true := by kernel_rfl
theorem name_75 : (Try.f75.name != "runtime.NumGoroutine") = true := by kernel_rfl
theorem hasR_75 : hasR (Try.f75.body.getD .skip) = false := by kernel_rfl
theorem run_75 (d : Nat) (args : List AV) (σ : St) (h : args.length ≤ 31) : evalF Try.prog CC (d + 1) 75 args σ = evalCode CC (evalF Try.prog CC d) 75 (Try.f75.body.getD .skip) (entryEnv args) σ (retK CC 75 Try.f75 σ) :=
  evalF_succ Try.prog CC (fn := Try.f75) (N := 31) rfl Try.func75 body_75 rfl dst_75 name_75 hasR_75 h
theorem body_76 : Try.f76.body = some (Try.f76.body.getD .skip) := rfl
theorem dst_76 : dstOk 8 (Try.f76.body.getD .skip) = true := by kernel_rfl
theorem name_76 : (Try.f76.name != "runtime.NumGoroutine") = true := by kernel_rfl
theorem hasR_76 : hasR (Try.f76.body.getD .skip) = false := by kernel_rfl
theorem run_76 (d : Nat) (args : List AV) (σ : St) (h : args.length ≤ 8) : evalF Try.prog CC (d + 1) 76 args σ = evalCode CC (evalF Try.prog CC d) 76 (Try.f76.body.getD .skip) (entryEnv args) σ (retK CC 76 Try.f76 σ) :=
  evalF_succ Try.prog CC (fn := Try.f76) (N := 8) rfl Try.func76 body_76 rfl dst_76 name_76 hasR_76 h
theorem body_77 : Try.f77.body = some (Try.f77.body.getD .skip) := rfl
theorem dst_77 : dstOk 61 (Try.f77.body.getD .skip) = true := by kernel_rfl
theorem name_77 : (Try.f77.name != "runtime.NumGoroutine") = true := by kernel_rfl
theorem hasR_77 : hasR (Try.f77.body.getD .skip) = false := by kernel_rfl
theorem run_77 (d : Nat) (args : List AV) (σ : St) (h : args.length ≤ 61) : evalF Try.prog CC (d + 1) 77 args σ = evalCode CC (evalF Try.prog CC d) 77 (Try.f77.body.getD .skip) (entryEnv args) σ (retK CC 77 Try.f77 σ) :=
  evalF_succ Try.prog CC (fn := Try.f77) (N := 61) rfl Try.func77 body_77 rfl dst_77 name_77 hasR_77 h
theorem body_80 : Try.f80.body = some (Try.f80.body.getD .skip) := rfl
theorem dst_80 : dstOk 42 (Try.f80.body.getD .skip) = true := by kernel_rfl
theorem name_80 : (Try.f80.name != "runtime.NumGoroutine") = true := by kernel_rfl
theorem hasR_80 : hasR (Try.f80.body.getD .skip) = false := by kernel_rfl
theorem run_80 (d : Nat) (args : List AV) (σ : St) (h : args.length ≤ 42) : evalF Try.prog CC (d + 1) 80 args σ = evalCode CC (evalF Try.prog CC d) 80 (Try.f80.body.getD .skip) (entryEnv args) σ (retK CC 80 Try.f80 σ) :=
  evalF_succ Try.prog CC (fn := Try.f80) (N := 42) rfl Try.func80 body_80 rfl dst_80 name_80 hasR_80 h
theorem body_81 : Try.f81.body = some (Try.f81.body.getD .skip) := rfl
theorem dst_81 : dstOk 8 (Try.f81.body.getD .skip) = true := by kernel_rfl
theorem name_81 : (Try.f81.name != "runtime.NumGoroutine") = true := by kernel_rfl
theorem hasR_81 : hasR (Try.f81.body.getD .skip) = false := by kernel_rfl
theorem run_81 (d : Nat) (args : List AV) (σ : St) (h : args.length ≤ 8) : evalF Try.prog CC (d + 1) 81 args σ = evalCode CC (evalF Try.prog CC d) 81 (Try.f81.body.getD .skip) (entryEnv args) σ (retK CC 81 Try.f81 σ) :=
  evalF_succ Try.prog CC (fn := Try.f81) (N := 8) rfl Try.func81 body_81 rfl dst_81 name_81 hasR_81 h
theorem run_1000081 (d : Nat) (args : List AV) (σ : St) (h : args.length ≤ 8) : evalF Try.prog CC (d + 1) 1000081 args σ = evalCode CC (evalF Try.prog CC d) 1000081 (Try.f81.body.getD .skip) (entryEnv args) σ (retK CC 1000081 Try.f81 σ) :=
  evalF_succ Try.prog CC (fn := Try.f81) (N := 8) rfl Try.func81 body_81 rfl dst_81 name_81 hasR_81 h
theorem body_82 : Try.f82.body = some (Try.f82.body.getD .skip) := rfl
theorem dst_82 : dstOk 8 (Try.f82.body.getD .skip) = true := by kernel_rfl
theorem name_82 : (Try.f82.name != "runtime.NumGoroutine") = true := by kernel_rfl
theorem hasR_82 : hasR (Try.f82.body.getD .skip) = false := by kernel_rfl
theorem run_82 (d : Nat) (args : List AV) (σ : St) (h : args.length ≤ 8) : evalF Try.prog CC (d + 1) 82 args σ = evalCode CC (evalF Try.prog CC d) 82 (Try.f82.body.getD .skip) (entryEnv args) σ (retK CC 82 Try.f82 σ) :=
  evalF_succ Try.prog CC (fn := Try.f82) (N := 8) rfl Try.func82 body_82 rfl dst_82 name_82 hasR_82 h
theorem body_87 : Try.f87.body = some (Try.f87.body.getD .skip) := rfl
theorem dst_87 : dstOk 9 (Try.f87.body.getD .skip) = true := by kernel_rfl
theorem name_87 : (Try.f87.name != "runtime.NumGoroutine") = true := by kernel_rfl
theorem hasR_87 : hasR (Try.f87.body.getD .skip) = false := by kernel_rfl
theorem run_87 (d : Nat) (args : List AV) (σ : St) (h : args.length ≤ 9) : evalF Try.prog CC (d + 1) 87 args σ = evalCode CC (evalF Try.prog CC d) 87 (Try.f87.body.getD .skip) (entryEnv args) σ (retK CC 87 Try.f87 σ) :=
  evalF_succ Try.prog CC (fn := Try.f87) (N := 9) rfl Try.func87 body_87 rfl dst_87 name_87 hasR_87 h
theorem body_88 : Try.f88.body = some (Try.f88.body.getD .skip) := rfl
theorem dst_88 : dstOk 25 (Try.f88.body.getD .skip) = true := by kernel_rfl
theorem name_88 : (Try.f88.name != "runtime.NumGoroutine") = true := by kernel_rfl
theorem hasR_88 : hasR (Try.f88.body.getD .skip) = false := by kernel_rfl
theorem run_88 (d : Nat) (args : List AV) (σ : St) (h : args.length ≤ 25) : evalF Try.prog CC (d + 1) 88 args σ = evalCode CC (evalF Try.prog CC d) 88 (Try.f88.body.getD .skip) (entryEnv args) σ (retK CC 88 Try.f88 σ) :=
  evalF_succ Try.prog CC (fn := Try.f88) (N := 25) rfl Try.func88 body_88 rfl dst_88 name_88 hasR_88 h
theorem body_89 : Try.f89.body = some (Try.f89.body.getD .skip) := rfl
theorem dst_89 : dstOk 25 (Try.f89.body.getD .skip) = true := by kernel_rfl
theorem name_89 : (Try.f89.name != "runtime.NumGoroutine") = true := by kernel_rfl
theorem hasR_89 : hasR (Try.f89.body.getD .skip) = false := by kernel_rfl
theorem run_89 (d : Nat) (args : List AV) (σ : St) (h : args.length ≤ 25) : evalF Try.prog CC (d + 1) 89 args σ = evalCode CC (evalF Try.prog CC d) 89 (Try.f89.body.getD .skip) (entryEnv args) σ (retK CC 89 Try.f89 σ) :=
  evalF_succ Try.prog CC (fn := Try.f89) (N := 25) rfl Try.func89 body_89 rfl dst_89 name_89 hasR_89 h
theorem body_90 : Try.f90.body = some (Try.f90.body.getD .skip) := rfl
theorem dst_90 : dstOk 27 (Try.f90.body.getD .skip) = true := by kernel_rfl
theorem name_90 : (Try.f90.name != "runtime.NumGoroutine") = true := by kernel_rfl
theorem hasR_90 : hasR (Try.f90.body.getD .skip) = false := by kernel_rfl
theorem run_90 (d : Nat) (args : List AV) (σ : St) (h : args.length ≤ 27) : evalF Try.prog CC (d + 1) 90 args σ = evalCode CC (evalF Try.prog CC d) 90 (Try.f90.body.getD .skip) (entryEnv args) σ (retK CC 90 Try.f90 σ) :=
  evalF_succ Try.prog CC (fn := Try.f90) (N := 27) rfl Try.func90 body_90 rfl dst_90 name_90 hasR_90 h
theorem body_91 : Try.f91.body = some (Try.f91.body.getD .skip) := rfl
theorem dst_91 : dstOk 14 (Try.f91.body.getD .skip) = true := by kernel_rfl
theorem name_91 : (Try.f91.name != "runtime.NumGoroutine") = true := by kernel_rfl
theorem hasR_91 : hasR (Try.f91.body.getD .skip) = false := by kernel_rfl
theorem run_91 (d : Nat) (args : List AV) (σ : St) (h : args.length ≤ 14) : evalF Try.prog CC (d + 1) 91 args σ = evalCode CC (evalF Try.prog CC d) 91 (Try.f91.body.getD .skip) (entryEnv args) σ (retK CC 91 Try.f91 σ) :=
  evalF_succ Try.prog CC (fn := Try.f91) (N := 14) rfl Try.func91 body_91 rfl dst_91 name_91 hasR_91 h
theorem body_92 : Try.f92.body = some (Try.f92.body.getD .skip) := rfl
theorem dst_92 : dstOk 26 (Try.f92.body.getD .skip) = true := by kernel_rfl
theorem name_92 : (Try.f92.name != "runtime.NumGoroutine") = true := by kernel_rfl
theorem hasR_92 : hasR (Try.f92.body.getD .skip) = false := by kernel_rfl
theorem run_92 (d : Nat) (args : List AV) (σ : St) (h : args.length ≤ 26) : evalF Try.prog CC (d + 1) 92 args σ = evalCode CC (evalF Try.prog CC d) 92 (Try.f92.body.getD .skip) (entryEnv args) σ (retK CC 92 Try.f92 σ) :=
  evalF_succ Try.prog CC (fn := Try.f92) (N := 26) rfl Try.func92 body_92 rfl dst_92 name_92 hasR_92 h
theorem body_93 : Try.f93.body = some (Try.f93.body.getD .skip) := rfl
theorem dst_93 : dstOk 29 (Try.f93.body.getD .skip) = true := by kernel_rfl
theorem name_93 : (Try.f93.name != "runtime.NumGoroutine") = true := by kernel_rfl
theorem hasR_93 : hasR (Try.f93.body.getD .skip) = false := by kernel_rfl
theorem run_93 (d : Nat) (args : List AV) (σ : St) (h : args.length ≤ 29) : evalF Try.prog CC (d + 1) 93 args σ = evalCode CC (evalF Try.prog CC d) 93 (Try.f93.body.getD .skip) (entryEnv args) σ (retK CC 93 Try.f93 σ) :=
  evalF_succ Try.prog CC (fn := Try.f93) (N := 29) rfl Try.func93 body_93 rfl dst_93 name_93 hasR_93 h
theorem body_94 : Try.f94.body = some (Try.f94.body.getD .skip) := rfl
theorem dst_94 : dstOk 7 (Try.f94.body.getD .skip) = true := by kernel_rfl
theorem name_94 : (Try.f94.name != "runtime.NumGoroutine") = true := by kernel_rfl
theorem hasR_94 : hasR (Try.f94.body.getD .skip) = false := by kernel_rfl
theorem run_94 (d : Nat) (args : List AV) (σ : St) (h : args.length ≤ 7) : evalF Try.prog CC (d + 1) 94 args σ = evalCode CC (evalF Try.prog CC d) 94 (Try.f94.body.getD .skip) (entryEnv args) σ (retK CC 94 Try.f94 σ) :=
  evalF_succ Try.prog CC (fn := Try.f94) (N := 7) rfl Try.func94 body_94 rfl dst_94 name_94 hasR_94 h
theorem body_95 : Try.f95.body = some (Try.f95.body.getD .skip) := rfl
theorem dst_95 : dstOk 30 (Try.f95.body.getD .skip) = true := by kernel_rfl
theorem name_95 : (Try.f95.name != "runtime.NumGoroutine") = true := by kernel_rfl
theorem hasR_95 : hasR (Try.f95.body.getD .skip) = false := by kernel_rfl
theorem run_95 (d : Nat) (args : List AV) (σ : St) (h : args.length ≤ 30) : evalF Try.prog CC (d + 1) 95 args σ = evalCode CC (evalF Try.prog CC d) 95 (Try.f95.body.getD .skip) (entryEnv args) σ (retK CC 95 Try.f95 σ) :=
  evalF_succ Try.prog CC (fn := Try.f95) (N := 30) rfl Try.func95 body_95 rfl dst_95 name_95 hasR_95 h
theorem body_96 : Try.f96.body = some (Try.f96.body.getD .skip) := rfl
theorem dst_96 : dstOk 10 (Try.f96.body.getD .skip) = true := by kernel_rfl
theorem name_96 : (Try.f96.name != "runtime.NumGoroutine") = true := by kernel_rfl
theorem hasR_96 : hasR (Try.f96.body.getD .skip) = false := by kernel_rfl
theorem run_96 (d : Nat) (args : List AV) (σ : St) (h : args.length ≤ 10) : evalF Try.prog CC (d + 1) 96 args σ = evalCode CC (evalF Try.prog CC d) 96 (Try.f96.body.getD .skip) (entryEnv args) σ (retK CC 96 Try.f96 σ) :=
  evalF_succ Try.prog CC (fn := Try.f96) (N := 10) rfl Try.func96 body_96 rfl dst_96 name_96 hasR_96 h
theorem body_97 : Try.f97.body = some (Try.f97.body.getD .skip) := rfl
theorem dst_97 : dstOk 18 (Try.f97.body.getD .skip) = true := by kernel_rfl
theorem name_97 : (Try.f97.name != "runtime.NumGoroutine") = true := by kernel_rfl
theorem hasR_97 : hasR (Try.f97.body.getD .skip) = false := by kernel_rfl
theorem run_97 (d : Nat) (args : List AV) (σ : St) (h : args.length ≤ 18) : evalF Try.prog CC (d + 1) 97 args σ = evalCode CC (evalF Try.prog CC d) 97 (Try.f97.body.getD .skip) (entryEnv args) σ (retK CC 97 Try.f97 σ) :=
  evalF_succ Try.prog CC (fn := Try.f97) (N := 18) rfl Try.func97 body_97 rfl dst_97 name_97 hasR_97 h
theorem body_98 : Try.f98.body = some (Try.f98.body.getD .skip) := rfl
theorem dst_98 : dstOk 34 (Try.f98.body.getD .skip) = true := by kernel_rfl
theorem name_98 : (Try.f98.name != "runtime.NumGoroutine") = true := by kernel_rfl
theorem hasR_98 : hasR (Try.f98.body.getD .skip) = false := by kernel_rfl
theorem run_98 (d : Nat) (args : List AV) (σ : St) (h : args.length ≤ 34) : evalF Try.prog CC (d + 1) 98 args σ = evalCode CC (evalF Try.prog CC d) 98 (Try.f98.body.getD .skip) (entryEnv args) σ (retK CC 98 Try.f98 σ) :=
  evalF_succ Try.prog CC (fn := Try.f98) (N := 34) rfl Try.func98 body_98 rfl dst_98 name_98 hasR_98 h
theorem body_99 : Try.f99.body = some (Try.f99.body.getD .skip) := rfl
theorem dst_99 : dstOk 26 (Try.f99.body.getD .skip) = true := by kernel_rfl
theorem name_99 : (Try.f99.name != "runtime.NumGoroutine") = true := by kernel_rfl
theorem hasR_99 : hasR (Try.f99.body.getD .skip) = false := by kernel_rfl
theorem run_99 (d : Nat) (args : List AV) (σ : St) (h : args.length ≤ 26) : evalF Try.prog CC (d + 1) 99 args σ = evalCode CC (evalF Try.prog CC d) 99 (Try.f99.body.getD .skip) (entryEnv args) σ (retK CC 99 Try.f99 σ) :=
  evalF_succ Try.prog CC (fn := Try.f99) (N := 26) rfl Try.func99 body_99 rfl dst_99 name_99 hasR_99 h
theorem body_100 : Try.f100.body = some (Try.f100.body.getD .skip) := rfl
theorem dst_100 : dstOk 53 (Try.f100.body.getD .skip) = true := by kernel_rfl
theorem name_100 : (Try.f100.name != "runtime.NumGoroutine") = true := by kernel_rfl
theorem hasR_100 : hasR (Try.f100.body.getD .skip) = false := by kernel_rfl
theorem run_100 (d : Nat) (args : List AV) (σ : St) (h : args.length ≤ 53) : evalF Try.prog CC (d + 1) 100 args σ = evalCode CC (evalF Try.prog CC d) 100 (Try.f100.body.getD .skip) (entryEnv args) σ (retK CC 100 Try.f100 σ) :=
  evalF_succ Try.prog CC (fn := Try.f100) (N := 53) rfl Try.func100 body_100 rfl dst_100 name_100 hasR_100 h
theorem body_101 : Try.f101.body = some (Try.f101.body.getD .skip) := rfl
theorem dst_101 : dstOk 6 (Try.f101.body.getD .skip) = true := by kernel_rfl
theorem name_101 : (Try.f101.name != "runtime.NumGoroutine") = true := by kernel_rfl
theorem hasR_101 : hasR (Try.f101.body.getD .skip) = false := by kernel_rfl
theorem run_101 (d : Nat) (args : List AV) (σ : St) (h : args.length ≤ 6) : evalF Try.prog CC (d + 1) 101 args σ = evalCode CC (evalF Try.prog CC d) 101 (Try.f101.body.getD .skip) (entryEnv args) σ (retK CC 101 Try.f101 σ) :=
  evalF_succ Try.prog CC (fn := Try.f101) (N := 6) rfl Try.func101 body_101 rfl dst_101 name_101 hasR_101 h
theorem body_102 : Try.f102.body = some (Try.f102.body.getD .skip) := rfl
theorem dst_102 : dstOk 19 (Try.f102.body.getD .skip) = true := by kernel_rfl
theorem name_102 : (Try.f102.name != "runtime.NumGoroutine") = true := by kernel_rfl
theorem hasR_102 : hasR (Try.f102.body.getD .skip) = false := by kernel_rfl
theorem run_102 (d : Nat) (args : List AV) (σ : St) (h : args.length ≤ 19) : evalF Try.prog CC (d + 1) 102 args σ = evalCode CC (evalF Try.prog CC d) 102 (Try.f102.body.getD .skip) (entryEnv args) σ (retK CC 102 Try.f102 σ) :=
  evalF_succ Try.prog CC (fn := Try.f102) (N := 19) rfl Try.func102 body_102 rfl dst_102 name_102 hasR_102 h
theorem body_105 : Try.f105.body = some (Try.f105.body.getD .skip) := rfl
theorem dst_105 : dstOk 19 (Try.f105.body.getD .skip) = true := by kernel_rfl
theorem name_105 : (Try.f105.name != "runtime.NumGoroutine") = true := by kernel_rfl
theorem hasR_105 : hasR (Try.f105.body.getD .skip) = false := by kernel_rfl
theorem run_105 (d : Nat) (args : List AV) (σ : St) (h : args.length ≤ 19) : evalF Try.prog CC (d + 1) 105 args σ = evalCode CC (evalF Try.prog CC d) 105 (Try.f105.body.getD .skip) (entryEnv args) σ (retK CC 105 Try.f105 σ) :=
  evalF_succ Try.prog CC (fn := Try.f105) (N := 19) rfl Try.func105 body_105 rfl dst_105 name_105 hasR_105 h
theorem body_106 : Try.f106.body = some (Try.f106.body.getD .skip) := rfl
theorem dst_106 : dstOk 8 (Try.f106.body.getD .skip) = true := by kernel_rfl
theorem name_106 : (Try.f106.name != "runtime.NumGoroutine") = true := by kernel_rfl
theorem hasR_106 : hasR (Try.f106.body.getD .skip) = false := by kernel_rfl
theorem run_106 (d : Nat) (args : List AV) (σ : St) (h : args.length ≤ 8) : evalF Try.prog CC (d + 1) 106 args σ = evalCode CC (evalF Try.prog CC d) 106 (Try.f106.body.getD .skip) (entryEnv args) σ (retK CC 106 Try.f106 σ) :=
  evalF_succ Try.prog CC (fn := Try.f106) (N := 8) rfl Try.func106 body_106 rfl dst_106 name_106 hasR_106 h
theorem body_107 : Try.f107.body = some (Try.f107.body.getD .skip) := rfl
theorem dst_107 : dstOk 32 (Try.f107.body.getD .skip) = true := by kernel_rfl
theorem name_107 : (Try.f107.name != "runtime.NumGoroutine") = true := by kernel_rfl
theorem hasR_107 : hasR (Try.f107.body.getD .skip) = false := by kernel_rfl
theorem run_107 (d : Nat) (args : List AV) (σ : St) (h : args.length ≤ 32) : evalF Try.prog CC (d + 1) 107 args σ = evalCode CC (evalF Try.prog CC d) 107 (Try.f107.body.getD .skip) (entryEnv args) σ (retK CC 107 Try.f107 σ) :=
  evalF_succ Try.prog CC (fn := Try.f107) (N := 32) rfl Try.func107 body_107 rfl dst_107 name_107 hasR_107 h
theorem body_108 : Try.f108.body = some (Try.f108.body.getD .skip) := rfl
theorem dst_108 : dstOk 25 (Try.f108.body.getD .skip) = true := by kernel_rfl
theorem name_108 : (Try.f108.name != "runtime.NumGoroutine") = true := by kernel_rfl
theorem hasR_108 : hasR (Try.f108.body.getD .skip) = false := by kernel_rfl
theorem run_108 (d : Nat) (args : List AV) (σ : St) (h : args.length ≤ 25) : evalF Try.prog CC (d + 1) 108 args σ = evalCode CC (evalF Try.prog CC d) 108 (Try.f108.body.getD .skip) (entryEnv args) σ (retK CC 108 Try.f108 σ) :=
  evalF_succ Try.prog CC (fn := Try.f108) (N := 25) rfl Try.func108 body_108 rfl dst_108 name_108 hasR_108 h
end Go.Proofs.Yticlihmbikcohaa.Va
