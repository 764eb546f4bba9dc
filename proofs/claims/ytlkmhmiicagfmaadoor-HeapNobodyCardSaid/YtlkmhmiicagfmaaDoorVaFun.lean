/- each function's place in the interpreter -/
import Derived.Test.YtlkmhmiicagfmaaDoorDooC
namespace Go.Proofs.YtlkmhmiicagfmaaDoor.Va
open Go
set_option linter.unusedVariables false
theorem body_2 : Tryd.f2.body = some (Tryd.f2.body.getD .skip) := rfl
theorem dst_2 : dstOk 1 (Tryd.f2.body.getD .skip) = true := by kernel_rfl
theorem name_2 : (Tryd.f2.name != "runtime.NumGoroutine") = true := by kernel_rfl
theorem hasR_2 : hasR (Tryd.f2.body.getD .skip) = false := by kernel_rfl
theorem run_2 (d : Nat) (args : List AV) (σ : St) (h : args.length ≤ 1) : evalF Tryd.prog CC (d + 1) 2 args σ = evalCode CC (evalF Tryd.prog CC d) 2 (Tryd.f2.body.getD .skip) (entryEnv args) σ (retK CC 2 Tryd.f2 σ) :=
  evalF_succ Tryd.prog CC (fn := Tryd.f2) (N := 1) rfl Tryd.func2 body_2 rfl dst_2 name_2 hasR_2 h
theorem body_3 : Tryd.f3.body = some (Tryd.f3.body.getD .skip) := rfl
theorem dst_3 : dstOk 94 (Tryd.f3.body.getD .skip) = true := by kernel_rfl
theorem name_3 : (Tryd.f3.name != "runtime.NumGoroutine") = true := by kernel_rfl
theorem hasR_3 : hasR (Tryd.f3.body.getD .skip) = false := by kernel_rfl
theorem run_3 (d : Nat) (args : List AV) (σ : St) (h : args.length ≤ 94) : evalF Tryd.prog CC (d + 1) 3 args σ = evalCode CC (evalF Tryd.prog CC d) 3 (Tryd.f3.body.getD .skip) (entryEnv args) σ (retK CC 3 Tryd.f3 σ) :=
  evalF_succ Tryd.prog CC (fn := Tryd.f3) (N := 94) rfl Tryd.func3 body_3 rfl dst_3 name_3 hasR_3 h
theorem body_4 : Tryd.f4.body = some (Tryd.f4.body.getD .skip) := rfl
theorem dst_4 : dstOk 160 (Tryd.f4.body.getD .skip) = true := by kernel_rfl
theorem name_4 : (Tryd.f4.name != "runtime.NumGoroutine") = true := by kernel_rfl
theorem hasR_4 : hasR (Tryd.f4.body.getD .skip) = false := by kernel_rfl
theorem run_4 (d : Nat) (args : List AV) (σ : St) (h : args.length ≤ 160) : evalF Tryd.prog CC (d + 1) 4 args σ = evalCode CC (evalF Tryd.prog CC d) 4 (Tryd.f4.body.getD .skip) (entryEnv args) σ (retK CC 4 Tryd.f4 σ) :=
  evalF_succ Tryd.prog CC (fn := Tryd.f4) (N := 160) rfl Tryd.func4 body_4 rfl dst_4 name_4 hasR_4 h
theorem body_5 : Tryd.f5.body = some (Tryd.f5.body.getD .skip) := rfl
theorem dst_5 : dstOk 54 (Tryd.f5.body.getD .skip) = true := by kernel_rfl
theorem name_5 : (Tryd.f5.name != "runtime.NumGoroutine") = true := by kernel_rfl
theorem hasR_5 : hasR (Tryd.f5.body.getD .skip) = false := by kernel_rfl
theorem run_5 (d : Nat) (args : List AV) (σ : St) (h : args.length ≤ 54) : evalF Tryd.prog CC (d + 1) 5 args σ = evalCode CC (evalF Tryd.prog CC d) 5 (Tryd.f5.body.getD .skip) (entryEnv args) σ (retK CC 5 Tryd.f5 σ) :=
  evalF_succ Tryd.prog CC (fn := Tryd.f5) (N := 54) rfl Tryd.func5 body_5 rfl dst_5 name_5 hasR_5 h
theorem body_6 : Tryd.f6.body = some (Tryd.f6.body.getD .skip) := rfl
theorem dst_6 : dstOk 104 (Tryd.f6.body.getD .skip) = true := by kernel_rfl
theorem name_6 : (Tryd.f6.name != "runtime.NumGoroutine") = true := by kernel_rfl
theorem hasR_6 : hasR (Tryd.f6.body.getD .skip) = false := by kernel_rfl
theorem run_6 (d : Nat) (args : List AV) (σ : St) (h : args.length ≤ 104) : evalF Tryd.prog CC (d + 1) 6 args σ = evalCode CC (evalF Tryd.prog CC d) 6 (Tryd.f6.body.getD .skip) (entryEnv args) σ (retK CC 6 Tryd.f6 σ) :=
  evalF_succ Tryd.prog CC (fn := Tryd.f6) (N := 104) rfl Tryd.func6 body_6 rfl dst_6 name_6 hasR_6 h
theorem body_7 : Tryd.f7.body = some (Tryd.f7.body.getD .skip) := rfl
theorem dst_7 : dstOk 66 (Tryd.f7.body.getD .skip) = true := by kernel_rfl
theorem name_7 : (Tryd.f7.name != "runtime.NumGoroutine") = true := by kernel_rfl
theorem hasR_7 : hasR (Tryd.f7.body.getD .skip) = false := by kernel_rfl
theorem run_7 (d : Nat) (args : List AV) (σ : St) (h : args.length ≤ 66) : evalF Tryd.prog CC (d + 1) 7 args σ = evalCode CC (evalF Tryd.prog CC d) 7 (Tryd.f7.body.getD .skip) (entryEnv args) σ (retK CC 7 Tryd.f7 σ) :=
  evalF_succ Tryd.prog CC (fn := Tryd.f7) (N := 66) rfl Tryd.func7 body_7 rfl dst_7 name_7 hasR_7 h
theorem body_8 : Tryd.f8.body = some (Tryd.f8.body.getD .skip) := rfl
theorem dst_8 : dstOk 33 (Tryd.f8.body.getD .skip) = true := by kernel_rfl
theorem name_8 : (Tryd.f8.name != "runtime.NumGoroutine") = true := by kernel_rfl
theorem hasR_8 : hasR (Tryd.f8.body.getD .skip) = false := by kernel_rfl
theorem run_8 (d : Nat) (args : List AV) (σ : St) (h : args.length ≤ 33) : evalF Tryd.prog CC (d + 1) 8 args σ = evalCode CC (evalF Tryd.prog CC d) 8 (Tryd.f8.body.getD .skip) (entryEnv args) σ (retK CC 8 Tryd.f8 σ) :=
  evalF_succ Tryd.prog CC (fn := Tryd.f8) (N := 33) rfl Tryd.func8 body_8 rfl dst_8 name_8 hasR_8 h
theorem body_9 : Tryd.f9.body = some (Tryd.f9.body.getD .skip) := rfl
theorem dst_9 : dstOk 29 (Tryd.f9.body.getD .skip) = true := by kernel_rfl
theorem name_9 : (Tryd.f9.name != "runtime.NumGoroutine") = true := by kernel_rfl
theorem hasR_9 : hasR (Tryd.f9.body.getD .skip) = false := by kernel_rfl
theorem run_9 (d : Nat) (args : List AV) (σ : St) (h : args.length ≤ 29) : evalF Tryd.prog CC (d + 1) 9 args σ = evalCode CC (evalF Tryd.prog CC d) 9 (Tryd.f9.body.getD .skip) (entryEnv args) σ (retK CC 9 Tryd.f9 σ) :=
  evalF_succ Tryd.prog CC (fn := Tryd.f9) (N := 29) rfl Tryd.func9 body_9 rfl dst_9 name_9 hasR_9 h
theorem body_10 : Tryd.f10.body = some (Tryd.f10.body.getD .skip) := rfl
theorem dst_10 : dstOk 61 (Tryd.f10.body.getD .skip) = true := by kernel_rfl
theorem name_10 : (Tryd.f10.name != "runtime.NumGoroutine") = true := by kernel_rfl
theorem hasR_10 : hasR (Tryd.f10.body.getD .skip) = false := by kernel_rfl
theorem run_10 (d : Nat) (args : List AV) (σ : St) (h : args.length ≤ 61) : evalF Tryd.prog CC (d + 1) 10 args σ = evalCode CC (evalF Tryd.prog CC d) 10 (Tryd.f10.body.getD .skip) (entryEnv args) σ (retK CC 10 Tryd.f10 σ) :=
  evalF_succ Tryd.prog CC (fn := Tryd.f10) (N := 61) rfl Tryd.func10 body_10 rfl dst_10 name_10 hasR_10 h
theorem body_11 : Tryd.f11.body = some (Tryd.f11.body.getD .skip) := rfl
theorem dst_11 : dstOk 31 (Tryd.f11.body.getD .skip) = true := by kernel_rfl
theorem name_11 : (Tryd.f11.name != "runtime.NumGoroutine") = true := by kernel_rfl
theorem hasR_11 : hasR (Tryd.f11.body.getD .skip) = false := by kernel_rfl
theorem run_11 (d : Nat) (args : List AV) (σ : St) (h : args.length ≤ 31) : evalF Tryd.prog CC (d + 1) 11 args σ = evalCode CC (evalF Tryd.prog CC d) 11 (Tryd.f11.body.getD .skip) (entryEnv args) σ (retK CC 11 Tryd.f11 σ) :=
  evalF_succ Tryd.prog CC (fn := Tryd.f11) (N := 31) rfl Tryd.func11 body_11 rfl dst_11 name_11 hasR_11 h
theorem body_12 : Tryd.f12.body = some (Tryd.f12.body.getD .skip) := rfl
theorem dst_12 : dstOk 26 (Tryd.f12.body.getD .skip) = true := by kernel_rfl
theorem name_12 : (Tryd.f12.name != "runtime.NumGoroutine") = true := by kernel_rfl
theorem hasR_12 : hasR (Tryd.f12.body.getD .skip) = false := by kernel_rfl
theorem run_12 (d : Nat) (args : List AV) (σ : St) (h : args.length ≤ 26) : evalF Tryd.prog CC (d + 1) 12 args σ = evalCode CC (evalF Tryd.prog CC d) 12 (Tryd.f12.body.getD .skip) (entryEnv args) σ (retK CC 12 Tryd.f12 σ) :=
  evalF_succ Tryd.prog CC (fn := Tryd.f12) (N := 26) rfl Tryd.func12 body_12 rfl dst_12 name_12 hasR_12 h
theorem body_13 : Tryd.f13.body = some (Tryd.f13.body.getD .skip) := rfl
theorem dst_13 : dstOk 10 (Tryd.f13.body.getD .skip) = true := by kernel_rfl
theorem name_13 : (Tryd.f13.name != "runtime.NumGoroutine") = true := by kernel_rfl
theorem hasR_13 : hasR (Tryd.f13.body.getD .skip) = false := by kernel_rfl
theorem run_13 (d : Nat) (args : List AV) (σ : St) (h : args.length ≤ 10) : evalF Tryd.prog CC (d + 1) 13 args σ = evalCode CC (evalF Tryd.prog CC d) 13 (Tryd.f13.body.getD .skip) (entryEnv args) σ (retK CC 13 Tryd.f13 σ) :=
  evalF_succ Tryd.prog CC (fn := Tryd.f13) (N := 10) rfl Tryd.func13 body_13 rfl dst_13 name_13 hasR_13 h
theorem body_14 : Tryd.f14.body = some (Tryd.f14.body.getD .skip) := rfl
theorem dst_14 : dstOk 10 (Tryd.f14.body.getD .skip) = true := by kernel_rfl
theorem name_14 : (Tryd.f14.name != "runtime.NumGoroutine") = true := by kernel_rfl
theorem hasR_14 : hasR (Tryd.f14.body.getD .skip) = false := by kernel_rfl
theorem run_14 (d : Nat) (args : List AV) (σ : St) (h : args.length ≤ 10) : evalF Tryd.prog CC (d + 1) 14 args σ = evalCode CC (evalF Tryd.prog CC d) 14 (Tryd.f14.body.getD .skip) (entryEnv args) σ (retK CC 14 Tryd.f14 σ) :=
  evalF_succ Tryd.prog CC (fn := Tryd.f14) (N := 10) rfl Tryd.func14 body_14 rfl dst_14 name_14 hasR_14 h
theorem body_15 : Tryd.f15.body = some (Tryd.f15.body.getD .skip) := rfl
theorem dst_15 : dstOk 10 (Tryd.f15.body.getD .skip) = true := by kernel_rfl
theorem name_15 : (Tryd.f15.name != "runtime.NumGoroutine") = true := by kernel_rfl
theorem hasR_15 : hasR (Tryd.f15.body.getD .skip) = false := by kernel_rfl
theorem run_15 (d : Nat) (args : List AV) (σ : St) (h : args.length ≤ 10) : evalF Tryd.prog CC (d + 1) 15 args σ = evalCode CC (evalF Tryd.prog CC d) 15 (Tryd.f15.body.getD .skip) (entryEnv args) σ (retK CC 15 Tryd.f15 σ) :=
  evalF_succ Tryd.prog CC (fn := Tryd.f15) (N := 10) rfl Tryd.func15 body_15 rfl dst_15 name_15 hasR_15 h
theorem body_16 : Tryd.f16.body = some (Tryd.f16.body.getD .skip) := rfl
theorem dst_16 : dstOk 107 (Tryd.f16.body.getD .skip) = true := by kernel_rfl
theorem name_16 : (Tryd.f16.name != "runtime.NumGoroutine") = true := by kernel_rfl
theorem hasR_16 : hasR (Tryd.f16.body.getD .skip) = false := by kernel_rfl
theorem run_16 (d : Nat) (args : List AV) (σ : St) (h : args.length ≤ 107) : evalF Tryd.prog CC (d + 1) 16 args σ = evalCode CC (evalF Tryd.prog CC d) 16 (Tryd.f16.body.getD .skip) (entryEnv args) σ (retK CC 16 Tryd.f16 σ) :=
  evalF_succ Tryd.prog CC (fn := Tryd.f16) (N := 107) rfl Tryd.func16 body_16 rfl dst_16 name_16 hasR_16 h
theorem body_17 : Tryd.f17.body = some (Tryd.f17.body.getD .skip) := rfl
theorem dst_17 : dstOk 74 (Tryd.f17.body.getD .skip) = true := by kernel_rfl
theorem name_17 : (Tryd.f17.name != "runtime.NumGoroutine") = true := by kernel_rfl
theorem hasR_17 : hasR (Tryd.f17.body.getD .skip) = false := by kernel_rfl
theorem run_17 (d : Nat) (args : List AV) (σ : St) (h : args.length ≤ 74) : evalF Tryd.prog CC (d + 1) 17 args σ = evalCode CC (evalF Tryd.prog CC d) 17 (Tryd.f17.body.getD .skip) (entryEnv args) σ (retK CC 17 Tryd.f17 σ) :=
  evalF_succ Tryd.prog CC (fn := Tryd.f17) (N := 74) rfl Tryd.func17 body_17 rfl dst_17 name_17 hasR_17 h
theorem body_18 : Tryd.f18.body = some (Tryd.f18.body.getD .skip) := rfl
theorem dst_18 : dstOk 25 (Tryd.f18.body.getD .skip) = true := by kernel_rfl
theorem name_18 : (Tryd.f18.name != "runtime.NumGoroutine") = true := by kernel_rfl
theorem hasR_18 : hasR (Tryd.f18.body.getD .skip) = false := by kernel_rfl
theorem run_18 (d : Nat) (args : List AV) (σ : St) (h : args.length ≤ 25) : evalF Tryd.prog CC (d + 1) 18 args σ = evalCode CC (evalF Tryd.prog CC d) 18 (Tryd.f18.body.getD .skip) (entryEnv args) σ (retK CC 18 Tryd.f18 σ) :=
  evalF_succ Tryd.prog CC (fn := Tryd.f18) (N := 25) rfl Tryd.func18 body_18 rfl dst_18 name_18 hasR_18 h
theorem body_19 : Tryd.f19.body = some (Tryd.f19.body.getD .skip) := rfl
theorem dst_19 : dstOk 35 (Tryd.f19.body.getD .skip) = true := by kernel_rfl
theorem name_19 : (Tryd.f19.name != "runtime.NumGoroutine") = true := by kernel_rfl
theorem hasR_19 : hasR (Tryd.f19.body.getD .skip) = false := by kernel_rfl
theorem run_19 (d : Nat) (args : List AV) (σ : St) (h : args.length ≤ 35) : evalF Tryd.prog CC (d + 1) 19 args σ = evalCode CC (evalF Tryd.prog CC d) 19 (Tryd.f19.body.getD .skip) (entryEnv args) σ (retK CC 19 Tryd.f19 σ) :=
  evalF_succ Tryd.prog CC (fn := Tryd.f19) (N := 35) rfl Tryd.func19 body_19 rfl dst_19 name_19 hasR_19 h
theorem body_20 : Tryd.f20.body = some (Tryd.f20.body.getD .skip) := rfl
theorem dst_20 : dstOk 37 (Tryd.f20.body.getD .skip) = true := by kernel_rfl
theorem name_20 : (Tryd.f20.name != "runtime.NumGoroutine") = true := by kernel_rfl
theorem hasR_20 : hasR (Tryd.f20.body.getD .skip) = false := by kernel_rfl
theorem run_20 (d : Nat) (args : List AV) (σ : St) (h : args.length ≤ 37) : evalF Tryd.prog CC (d + 1) 20 args σ = evalCode CC (evalF Tryd.prog CC d) 20 (Tryd.f20.body.getD .skip) (entryEnv args) σ (retK CC 20 Tryd.f20 σ) :=
  evalF_succ Tryd.prog CC (fn := Tryd.f20) (N := 37) rfl Tryd.func20 body_20 rfl dst_20 name_20 hasR_20 h
theorem body_21 : Tryd.f21.body = some (Tryd.f21.body.getD .skip) := rfl
theorem dst_21 : dstOk 32 (Tryd.f21.body.getD .skip) = true := by kernel_rfl
theorem name_21 : (Tryd.f21.name != "runtime.NumGoroutine") = true := by kernel_rfl
theorem hasR_21 : hasR (Tryd.f21.body.getD .skip) = false := by kernel_rfl
theorem run_21 (d : Nat) (args : List AV) (σ : St) (h : args.length ≤ 32) : evalF Tryd.prog CC (d + 1) 21 args σ = evalCode CC (evalF Tryd.prog CC d) 21 (Tryd.f21.body.getD .skip) (entryEnv args) σ (retK CC 21 Tryd.f21 σ) :=
  evalF_succ Tryd.prog CC (fn := Tryd.f21) (N := 32) rfl Tryd.func21 body_21 rfl dst_21 name_21 hasR_21 h
theorem body_22 : Tryd.f22.body = some (Tryd.f22.body.getD .skip) := rfl
theorem dst_22 : dstOk 37 (Tryd.f22.body.getD .skip) = true := by kernel_rfl
theorem name_22 : (Tryd.f22.name != "runtime.NumGoroutine") = true := by kernel_rfl
theorem hasR_22 : hasR (Tryd.f22.body.getD .skip) = false := by kernel_rfl
theorem run_22 (d : Nat) (args : List AV) (σ : St) (h : args.length ≤ 37) : evalF Tryd.prog CC (d + 1) 22 args σ = evalCode CC (evalF Tryd.prog CC d) 22 (Tryd.f22.body.getD .skip) (entryEnv args) σ (retK CC 22 Tryd.f22 σ) :=
  evalF_succ Tryd.prog CC (fn := Tryd.f22) (N := 37) rfl Tryd.func22 body_22 rfl dst_22 name_22 hasR_22 h
theorem body_23 : Tryd.f23.body = some (Tryd.f23.body.getD .skip) := rfl
theorem dst_23 : dstOk 34 (Tryd.f23.body.getD .skip) = true := by kernel_rfl
theorem name_23 : (Tryd.f23.name != "runtime.NumGoroutine") = true := by kernel_rfl
theorem hasR_23 : hasR (Tryd.f23.body.getD .skip) = false := by kernel_rfl
theorem run_23 (d : Nat) (args : List AV) (σ : St) (h : args.length ≤ 34) : evalF Tryd.prog CC (d + 1) 23 args σ = evalCode CC (evalF Tryd.prog CC d) 23 (Tryd.f23.body.getD .skip) (entryEnv args) σ (retK CC 23 Tryd.f23 σ) :=
  evalF_succ Tryd.prog CC (fn := Tryd.f23) (N := 34) rfl Tryd.func23 body_23 rfl dst_23 name_23 hasR_23 h
theorem body_24 : Tryd.f24.body = some (Tryd.f24.body.getD .skip) := rfl
theorem dst_24 : dstOk 125 (Tryd.f24.body.getD .skip) = true := by kernel_rfl
theorem name_24 : (Tryd.f24.name != "runtime.NumGoroutine") = true := by kernel_rfl
theorem hasR_24 : hasR (Tryd.f24.body.getD .skip) = false := by kernel_rfl
theorem run_24 (d : Nat) (args : List AV) (σ : St) (h : args.length ≤ 125) : evalF Tryd.prog CC (d + 1) 24 args σ = evalCode CC (evalF Tryd.prog CC d) 24 (Tryd.f24.body.getD .skip) (entryEnv args) σ (retK CC 24 Tryd.f24 σ) :=
  evalF_succ Tryd.prog CC (fn := Tryd.f24) (N := 125) rfl Tryd.func24 body_24 rfl dst_24 name_24 hasR_24 h
theorem body_25 : Tryd.f25.body = some (Tryd.f25.body.getD .skip) := rfl
theorem dst_25 : dstOk 31 (Tryd.f25.body.getD .skip) = true := by kernel_rfl
theorem name_25 : (Tryd.f25.name != "runtime.NumGoroutine") = true := by kernel_rfl
theorem hasR_25 : hasR (Tryd.f25.body.getD .skip) = false := by kernel_rfl
theorem run_25 (d : Nat) (args : List AV) (σ : St) (h : args.length ≤ 31) : evalF Tryd.prog CC (d + 1) 25 args σ = evalCode CC (evalF Tryd.prog CC d) 25 (Tryd.f25.body.getD .skip) (entryEnv args) σ (retK CC 25 Tryd.f25 σ) :=
  evalF_succ Tryd.prog CC (fn := Tryd.f25) (N := 31) rfl Tryd.func25 body_25 rfl dst_25 name_25 hasR_25 h
theorem body_26 : Tryd.f26.body = some (Tryd.f26.body.getD .skip) := rfl
theorem dst_26 : dstOk 13 (Tryd.f26.body.getD .skip) = true := by kernel_rfl
theorem name_26 : (Tryd.f26.name != "runtime.NumGoroutine") = true := by kernel_rfl
theorem hasR_26 : hasR (Tryd.f26.body.getD .skip) = false := by kernel_rfl
theorem run_26 (d : Nat) (args : List AV) (σ : St) (h : args.length ≤ 13) : evalF Tryd.prog CC (d + 1) 26 args σ = evalCode CC (evalF Tryd.prog CC d) 26 (Tryd.f26.body.getD .skip) (entryEnv args) σ (retK CC 26 Tryd.f26 σ) :=
  evalF_succ Tryd.prog CC (fn := Tryd.f26) (N := 13) rfl Tryd.func26 body_26 rfl dst_26 name_26 hasR_26 h
theorem body_27 : Tryd.f27.body = some (Tryd.f27.body.getD .skip) := rfl
theorem dst_27 : dstOk 59 (Tryd.f27.body.getD .skip) = true := by kernel_rfl
theorem name_27 : (Tryd.f27.name != "runtime.NumGoroutine") = true := by kernel_rfl
theorem hasR_27 : hasR (Tryd.f27.body.getD .skip) = false := by kernel_rfl
theorem run_27 (d : Nat) (args : List AV) (σ : St) (h : args.length ≤ 59) : evalF Tryd.prog CC (d + 1) 27 args σ = evalCode CC (evalF Tryd.prog CC d) 27 (Tryd.f27.body.getD .skip) (entryEnv args) σ (retK CC 27 Tryd.f27 σ) :=
  evalF_succ Tryd.prog CC (fn := Tryd.f27) (N := 59) rfl Tryd.func27 body_27 rfl dst_27 name_27 hasR_27 h
theorem body_28 : Tryd.f28.body = some (Tryd.f28.body.getD .skip) := rfl
theorem dst_28 : dstOk 33 (Tryd.f28.body.getD .skip) = true := by kernel_rfl
theorem name_28 : (Tryd.f28.name != "runtime.NumGoroutine") = true := by kernel_rfl
theorem hasR_28 : hasR (Tryd.f28.body.getD .skip) = false := by kernel_rfl
theorem run_28 (d : Nat) (args : List AV) (σ : St) (h : args.length ≤ 33) : evalF Tryd.prog CC (d + 1) 28 args σ = evalCode CC (evalF Tryd.prog CC d) 28 (Tryd.f28.body.getD .skip) (entryEnv args) σ (retK CC 28 Tryd.f28 σ) :=
  evalF_succ Tryd.prog CC (fn := Tryd.f28) (N := 33) rfl Tryd.func28 body_28 rfl dst_28 name_28 hasR_28 h
theorem body_29 : Tryd.f29.body = some (Tryd.f29.body.getD .skip) := rfl
theorem dst_29 : dstOk 23 (Tryd.f29.body.getD .skip) = true := by kernel_rfl
theorem name_29 : (Tryd.f29.name != "runtime.NumGoroutine") = true := by kernel_rfl
theorem hasR_29 : hasR (Tryd.f29.body.getD .skip) = false := by kernel_rfl
theorem run_29 (d : Nat) (args : List AV) (σ : St) (h : args.length ≤ 23) : evalF Tryd.prog CC (d + 1) 29 args σ = evalCode CC (evalF Tryd.prog CC d) 29 (Tryd.f29.body.getD .skip) (entryEnv args) σ (retK CC 29 Tryd.f29 σ) :=
  evalF_succ Tryd.prog CC (fn := Tryd.f29) (N := 23) rfl Tryd.func29 body_29 rfl dst_29 name_29 hasR_29 h
theorem body_30 : Tryd.f30.body = some (Tryd.f30.body.getD .skip) := rfl
theorem dst_30 : dstOk 49 (Tryd.f30.body.getD .skip) = true := by kernel_rfl
theorem name_30 : (Tryd.f30.name != "runtime.NumGoroutine") = true := by kernel_rfl
theorem hasR_30 : hasR (Tryd.f30.body.getD .skip) = false := by kernel_rfl
theorem run_30 (d : Nat) (args : List AV) (σ : St) (h : args.length ≤ 49) : evalF Tryd.prog CC (d + 1) 30 args σ = evalCode CC (evalF Tryd.prog CC d) 30 (Tryd.f30.body.getD .skip) (entryEnv args) σ (retK CC 30 Tryd.f30 σ) :=
  evalF_succ Tryd.prog CC (fn := Tryd.f30) (N := 49) rfl Tryd.func30 body_30 rfl dst_30 name_30 hasR_30 h
theorem body_31 : Tryd.f31.body = some (Tryd.f31.body.getD .skip) := rfl
theorem dst_31 : dstOk 29 (Tryd.f31.body.getD .skip) = true := by kernel_rfl
theorem name_31 : (Tryd.f31.name != "runtime.NumGoroutine") = true := by kernel_rfl
theorem hasR_31 : hasR (Tryd.f31.body.getD .skip) = false := by kernel_rfl
theorem run_31 (d : Nat) (args : List AV) (σ : St) (h : args.length ≤ 29) : evalF Tryd.prog CC (d + 1) 31 args σ = evalCode CC (evalF Tryd.prog CC d) 31 (Tryd.f31.body.getD .skip) (entryEnv args) σ (retK CC 31 Tryd.f31 σ) :=
  evalF_succ Tryd.prog CC (fn := Tryd.f31) (N := 29) rfl Tryd.func31 body_31 rfl dst_31 name_31 hasR_31 h
theorem body_32 : Tryd.f32.body = some (Tryd.f32.body.getD .skip) := rfl
theorem dst_32 : dstOk 95 (Tryd.f32.body.getD .skip) = true := by kernel_rfl
theorem name_32 : (Tryd.f32.name != "runtime.NumGoroutine") = true := by kernel_rfl
theorem hasR_32 : hasR (Tryd.f32.body.getD .skip) = false := by kernel_rfl
theorem run_32 (d : Nat) (args : List AV) (σ : St) (h : args.length ≤ 95) : evalF Tryd.prog CC (d + 1) 32 args σ = evalCode CC (evalF Tryd.prog CC d) 32 (Tryd.f32.body.getD .skip) (entryEnv args) σ (retK CC 32 Tryd.f32 σ) :=
  evalF_succ Tryd.prog CC (fn := Tryd.f32) (N := 95) rfl Tryd.func32 body_32 rfl dst_32 name_32 hasR_32 h
theorem body_33 : Tryd.f33.body = some (Tryd.f33.body.getD .skip) := rfl
theorem dst_33 : dstOk 34 (Tryd.f33.body.getD .skip) = true := by kernel_rfl
theorem name_33 : (Tryd.f33.name != "runtime.NumGoroutine") = true := by kernel_rfl
theorem hasR_33 : hasR (Tryd.f33.body.getD .skip) = false := by kernel_rfl
theorem run_33 (d : Nat) (args : List AV) (σ : St) (h : args.length ≤ 34) : evalF Tryd.prog CC (d + 1) 33 args σ = evalCode CC (evalF Tryd.prog CC d) 33 (Tryd.f33.body.getD .skip) (entryEnv args) σ (retK CC 33 Tryd.f33 σ) :=
  evalF_succ Tryd.prog CC (fn := Tryd.f33) (N := 34) rfl Tryd.func33 body_33 rfl dst_33 name_33 hasR_33 h
theorem body_34 : Tryd.f34.body = some (Tryd.f34.body.getD .skip) := rfl
theorem dst_34 : dstOk 45 (Tryd.f34.body.getD .skip) = true := by kernel_rfl
theorem name_34 : (Tryd.f34.name != "runtime.NumGoroutine") = true := by kernel_rfl
theorem hasR_34 : hasR (Tryd.f34.body.getD .skip) = false := by kernel_rfl
theorem run_34 (d : Nat) (args : List AV) (σ : St) (h : args.length ≤ 45) : evalF Tryd.prog CC (d + 1) 34 args σ = evalCode CC (evalF Tryd.prog CC d) 34 (Tryd.f34.body.getD .skip) (entryEnv args) σ (retK CC 34 Tryd.f34 σ) :=
  evalF_succ Tryd.prog CC (fn := Tryd.f34) (N := 45) rfl Tryd.func34 body_34 rfl dst_34 name_34 hasR_34 h
theorem body_35 : Tryd.f35.body = some (Tryd.f35.body.getD .skip) := rfl
theorem dst_35 : dstOk 37 (Tryd.f35.body.getD .skip) = true := by kernel_rfl
theorem name_35 : (Tryd.f35.name != "runtime.NumGoroutine") = true := by kernel_rfl
theorem hasR_35 : hasR (Tryd.f35.body.getD .skip) = false := by kernel_rfl
theorem run_35 (d : Nat) (args : List AV) (σ : St) (h : args.length ≤ 37) : evalF Tryd.prog CC (d + 1) 35 args σ = evalCode CC (evalF Tryd.prog CC d) 35 (Tryd.f35.body.getD .skip) (entryEnv args) σ (retK CC 35 Tryd.f35 σ) :=
  evalF_succ Tryd.prog CC (fn := Tryd.f35) (N := 37) rfl Tryd.func35 body_35 rfl dst_35 name_35 hasR_35 h
theorem body_36 : Tryd.f36.body = some (Tryd.f36.body.getD .skip) := rfl
theorem dst_36 : dstOk 38 (Tryd.f36.body.getD .skip) = true := by kernel_rfl
theorem name_36 : (Tryd.f36.name != "runtime.NumGoroutine") = true := by kernel_rfl
theorem hasR_36 : hasR (Tryd.f36.body.getD .skip) = false := by kernel_rfl
theorem run_36 (d : Nat) (args : List AV) (σ : St) (h : args.length ≤ 38) : evalF Tryd.prog CC (d + 1) 36 args σ = evalCode CC (evalF Tryd.prog CC d) 36 (Tryd.f36.body.getD .skip) (entryEnv args) σ (retK CC 36 Tryd.f36 σ) :=
  evalF_succ Tryd.prog CC (fn := Tryd.f36) (N := 38) rfl Tryd.func36 body_36 rfl dst_36 name_36 hasR_36 h
theorem body_37 : Tryd.f37.body = some (Tryd.f37.body.getD .skip) := rfl
theorem dst_37 : dstOk 62 (Tryd.f37.body.getD .skip) = true := by kernel_rfl
theorem name_37 : (Tryd.f37.name != "runtime.NumGoroutine") = true := by kernel_rfl
theorem hasR_37 : hasR (Tryd.f37.body.getD .skip) = false := by kernel_rfl
theorem run_37 (d : Nat) (args : List AV) (σ : St) (h : args.length ≤ 62) : evalF Tryd.prog CC (d + 1) 37 args σ = evalCode CC (evalF Tryd.prog CC d) 37 (Tryd.f37.body.getD .skip) (entryEnv args) σ (retK CC 37 Tryd.f37 σ) :=
  evalF_succ Tryd.prog CC (fn := Tryd.f37) (N := 62) rfl Tryd.func37 body_37 rfl dst_37 name_37 hasR_37 h
theorem body_38 : Tryd.f38.body = some (Tryd.f38.body.getD .skip) := rfl
theorem dst_38 : dstOk 28 (Tryd.f38.body.getD .skip) = true := by kernel_rfl
theorem name_38 : (Tryd.f38.name != "runtime.NumGoroutine") = true := by kernel_rfl
theorem hasR_38 : hasR (Tryd.f38.body.getD .skip) = false := by kernel_rfl
theorem run_38 (d : Nat) (args : List AV) (σ : St) (h : args.length ≤ 28) : evalF Tryd.prog CC (d + 1) 38 args σ = evalCode CC (evalF Tryd.prog CC d) 38 (Tryd.f38.body.getD .skip) (entryEnv args) σ (retK CC 38 Tryd.f38 σ) :=
  evalF_succ Tryd.prog CC (fn := Tryd.f38) (N := 28) rfl Tryd.func38 body_38 rfl dst_38 name_38 hasR_38 h
theorem body_39 : Tryd.f39.body = some (Tryd.f39.body.getD .skip) := rfl
theorem dst_39 : dstOk 78 (Tryd.f39.body.getD .skip) = true := by kernel_rfl
theorem name_39 : (Tryd.f39.name != "runtime.NumGoroutine") = true := by kernel_rfl
theorem hasR_39 : hasR (Tryd.f39.body.getD .skip) = false := by kernel_rfl
theorem run_39 (d : Nat) (args : List AV) (σ : St) (h : args.length ≤ 78) : evalF Tryd.prog CC (d + 1) 39 args σ = evalCode CC (evalF Tryd.prog CC d) 39 (Tryd.f39.body.getD .skip) (entryEnv args) σ (retK CC 39 Tryd.f39 σ) :=
  evalF_succ Tryd.prog CC (fn := Tryd.f39) (N := 78) rfl Tryd.func39 body_39 rfl dst_39 name_39 hasR_39 h
theorem body_40 : Tryd.f40.body = some (Tryd.f40.body.getD .skip) := rfl
theorem dst_40 : dstOk 9 (Tryd.f40.body.getD .skip) = true := by kernel_rfl
theorem name_40 : (Tryd.f40.name != "runtime.NumGoroutine") = true := by kernel_rfl
theorem hasR_40 : hasR (Tryd.f40.body.getD .skip) = false := by kernel_rfl
theorem run_40 (d : Nat) (args : List AV) (σ : St) (h : args.length ≤ 9) : evalF Tryd.prog CC (d + 1) 40 args σ = evalCode CC (evalF Tryd.prog CC d) 40 (Tryd.f40.body.getD .skip) (entryEnv args) σ (retK CC 40 Tryd.f40 σ) :=
  evalF_succ Tryd.prog CC (fn := Tryd.f40) (N := 9) rfl Tryd.func40 body_40 rfl dst_40 name_40 hasR_40 h
theorem body_41 : Tryd.f41.body = some (Tryd.f41.body.getD .skip) := rfl
theorem dst_41 : dstOk 22 (Tryd.f41.body.getD .skip) = true := by kernel_rfl
theorem name_41 : (Tryd.f41.name != "runtime.NumGoroutine") = true := by kernel_rfl
theorem hasR_41 : hasR (Tryd.f41.body.getD .skip) = false := by kernel_rfl
theorem run_41 (d : Nat) (args : List AV) (σ : St) (h : args.length ≤ 22) : evalF Tryd.prog CC (d + 1) 41 args σ = evalCode CC (evalF Tryd.prog CC d) 41 (Tryd.f41.body.getD .skip) (entryEnv args) σ (retK CC 41 Tryd.f41 σ) :=
  evalF_succ Tryd.prog CC (fn := Tryd.f41) (N := 22) rfl Tryd.func41 body_41 rfl dst_41 name_41 hasR_41 h
theorem body_42 : Tryd.f42.body = some (Tryd.f42.body.getD .skip) := rfl
theorem dst_42 : dstOk 9 (Tryd.f42.body.getD .skip) = true := by kernel_rfl
theorem name_42 : (Tryd.f42.name != "runtime.NumGoroutine") = true := by kernel_rfl
theorem hasR_42 : hasR (Tryd.f42.body.getD .skip) = false := by kernel_rfl
theorem run_42 (d : Nat) (args : List AV) (σ : St) (h : args.length ≤ 9) : evalF Tryd.prog CC (d + 1) 42 args σ = evalCode CC (evalF Tryd.prog CC d) 42 (Tryd.f42.body.getD .skip) (entryEnv args) σ (retK CC 42 Tryd.f42 σ) :=
  evalF_succ Tryd.prog CC (fn := Tryd.f42) (N := 9) rfl Tryd.func42 body_42 rfl dst_42 name_42 hasR_42 h
theorem body_43 : Tryd.f43.body = some (Tryd.f43.body.getD .skip) := rfl
theorem dst_43 : dstOk 63 (Tryd.f43.body.getD .skip) = true := by kernel_rfl
theorem name_43 : (Tryd.f43.name != "runtime.NumGoroutine") = true := by kernel_rfl
theorem hasR_43 : hasR (Tryd.f43.body.getD .skip) = false := by kernel_rfl
theorem run_43 (d : Nat) (args : List AV) (σ : St) (h : args.length ≤ 63) : evalF Tryd.prog CC (d + 1) 43 args σ = evalCode CC (evalF Tryd.prog CC d) 43 (Tryd.f43.body.getD .skip) (entryEnv args) σ (retK CC 43 Tryd.f43 σ) :=
  evalF_succ Tryd.prog CC (fn := Tryd.f43) (N := 63) rfl Tryd.func43 body_43 rfl dst_43 name_43 hasR_43 h
theorem body_44 : Tryd.f44.body = some (Tryd.f44.body.getD .skip) := rfl
theorem dst_44 : dstOk 26 (Tryd.f44.body.getD .skip) = true := by kernel_rfl
theorem name_44 : (Tryd.f44.name != "runtime.NumGoroutine") = true := by kernel_rfl
theorem hasR_44 : hasR (Tryd.f44.body.getD .skip) = false := by kernel_rfl
theorem run_44 (d : Nat) (args : List AV) (σ : St) (h : args.length ≤ 26) : evalF Tryd.prog CC (d + 1) 44 args σ = evalCode CC (evalF Tryd.prog CC d) 44 (Tryd.f44.body.getD .skip) (entryEnv args) σ (retK CC 44 Tryd.f44 σ) :=
  evalF_succ Tryd.prog CC (fn := Tryd.f44) (N := 26) rfl Tryd.func44 body_44 rfl dst_44 name_44 hasR_44 h
theorem body_45 : Tryd.f45.body = some (Tryd.f45.body.getD .skip) := rfl
theorem dst_45 : dstOk 42 (Tryd.f45.body.getD .skip) = true := by kernel_rfl
theorem name_45 : (Tryd.f45.name != "runtime.NumGoroutine") = true := by kernel_rfl
theorem hasR_45 : hasR (Tryd.f45.body.getD .skip) = false := by kernel_rfl
theorem run_45 (d : Nat) (args : List AV) (σ : St) (h : args.length ≤ 42) : evalF Tryd.prog CC (d + 1) 45 args σ = evalCode CC (evalF Tryd.prog CC d) 45 (Tryd.f45.body.getD .skip) (entryEnv args) σ (retK CC 45 Tryd.f45 σ) :=
  evalF_succ Tryd.prog CC (fn := Tryd.f45) (N := 42) rfl Tryd.func45 body_45 rfl dst_45 name_45 hasR_45 h
theorem body_46 : Tryd.f46.body = some (Tryd.f46.body.getD .skip) := rfl
theorem dst_46 : dstOk 36 (Tryd.f46.body.getD .skip) = true := by kernel_rfl
theorem name_46 : (Tryd.f46.name != "runtime.NumGoroutine") = true := by kernel_rfl
theorem hasR_46 : hasR (Tryd.f46.body.getD .skip) = false := by kernel_rfl
theorem run_46 (d : Nat) (args : List AV) (σ : St) (h : args.length ≤ 36) : evalF Tryd.prog CC (d + 1) 46 args σ = evalCode CC (evalF Tryd.prog CC d) 46 (Tryd.f46.body.getD .skip) (entryEnv args) σ (retK CC 46 Tryd.f46 σ) :=
  evalF_succ Tryd.prog CC (fn := Tryd.f46) (N := 36) rfl Tryd.func46 body_46 rfl dst_46 name_46 hasR_46 h
theorem body_47 : Tryd.f47.body = some (Tryd.f47.body.getD .skip) := rfl
theorem dst_47 : dstOk 37 (Tryd.f47.body.getD .skip) = true := by kernel_rfl
theorem name_47 : (Tryd.f47.name != "runtime.NumGoroutine") = true := by kernel_rfl
theorem hasR_47 : hasR (Tryd.f47.body.getD .skip) = false := by kernel_rfl
theorem run_47 (d : Nat) (args : List AV) (σ : St) (h : args.length ≤ 37) : evalF Tryd.prog CC (d + 1) 47 args σ = evalCode CC (evalF Tryd.prog CC d) 47 (Tryd.f47.body.getD .skip) (entryEnv args) σ (retK CC 47 Tryd.f47 σ) :=
  evalF_succ Tryd.prog CC (fn := Tryd.f47) (N := 37) rfl Tryd.func47 body_47 rfl dst_47 name_47 hasR_47 h
theorem body_48 : Tryd.f48.body = some (Tryd.f48.body.getD .skip) := rfl
theorem dst_48 : dstOk 55 (Tryd.f48.body.getD .skip) = true := by kernel_rfl
theorem name_48 : (Tryd.f48.name != "runtime.NumGoroutine") = true := by kernel_rfl
theorem hasR_48 : hasR (Tryd.f48.body.getD .skip) = false := by kernel_rfl
theorem run_48 (d : Nat) (args : List AV) (σ : St) (h : args.length ≤ 55) : evalF Tryd.prog CC (d + 1) 48 args σ = evalCode CC (evalF Tryd.prog CC d) 48 (Tryd.f48.body.getD .skip) (entryEnv args) σ (retK CC 48 Tryd.f48 σ) :=
  evalF_succ Tryd.prog CC (fn := Tryd.f48) (N := 55) rfl Tryd.func48 body_48 rfl dst_48 name_48 hasR_48 h
theorem body_49 : Tryd.f49.body = some (Tryd.f49.body.getD .skip) := rfl
theorem dst_49 : dstOk 80 (Tryd.f49.body.getD .skip) = true := by kernel_rfl
theorem name_49 : (Tryd.f49.name != "runtime.NumGoroutine") = true := by kernel_rfl
theorem hasR_49 : hasR (Tryd.f49.body.getD .skip) = false := by kernel_rfl
theorem run_49 (d : Nat) (args : List AV) (σ : St) (h : args.length ≤ 80) : evalF Tryd.prog CC (d + 1) 49 args σ = evalCode CC (evalF Tryd.prog CC d) 49 (Tryd.f49.body.getD .skip) (entryEnv args) σ (retK CC 49 Tryd.f49 σ) :=
  evalF_succ Tryd.prog CC (fn := Tryd.f49) (N := 80) rfl Tryd.func49 body_49 rfl dst_49 name_49 hasR_49 h
theorem body_50 : Tryd.f50.body = some (Tryd.f50.body.getD .skip) := rfl
theorem dst_50 : dstOk 90 (Tryd.f50.body.getD .skip) = true := by kernel_rfl
theorem name_50 : (Tryd.f50.name != "runtime.NumGoroutine") = true := by kernel_rfl
theorem hasR_50 : hasR (Tryd.f50.body.getD .skip) = false := by kernel_rfl
theorem run_50 (d : Nat) (args : List AV) (σ : St) (h : args.length ≤ 90) : evalF Tryd.prog CC (d + 1) 50 args σ = evalCode CC (evalF Tryd.prog CC d) 50 (Tryd.f50.body.getD .skip) (entryEnv args) σ (retK CC 50 Tryd.f50 σ) :=
  evalF_succ Tryd.prog CC (fn := Tryd.f50) (N := 90) rfl Tryd.func50 body_50 rfl dst_50 name_50 hasR_50 h
theorem body_51 : Tryd.f51.body = some (Tryd.f51.body.getD .skip) := rfl
theorem dst_51 : dstOk 117 (Tryd.f51.body.getD .skip) = true := by kernel_rfl
theorem name_51 : (Tryd.f51.name != "runtime.NumGoroutine") = true := by kernel_rfl
theorem hasR_51 : hasR (Tryd.f51.body.getD .skip) = false := by kernel_rfl
theorem run_51 (d : Nat) (args : List AV) (σ : St) (h : args.length ≤ 117) : evalF Tryd.prog CC (d + 1) 51 args σ = evalCode CC (evalF Tryd.prog CC d) 51 (Tryd.f51.body.getD .skip) (entryEnv args) σ (retK CC 51 Tryd.f51 σ) :=
  evalF_succ Tryd.prog CC (fn := Tryd.f51) (N := 117) rfl Tryd.func51 body_51 rfl dst_51 name_51 hasR_51 h
theorem body_52 : Tryd.f52.body = some (Tryd.f52.body.getD .skip) := rfl
theorem dst_52 : dstOk 93 (Tryd.f52.body.getD .skip) = true := by kernel_rfl
theorem name_52 : (Tryd.f52.name != "runtime.NumGoroutine") = true := by kernel_rfl
theorem hasR_52 : hasR (Tryd.f52.body.getD .skip) = false := by kernel_rfl
theorem run_52 (d : Nat) (args : List AV) (σ : St) (h : args.length ≤ 93) : evalF Tryd.prog CC (d + 1) 52 args σ = evalCode CC (evalF Tryd.prog CC d) 52 (Tryd.f52.body.getD .skip) (entryEnv args) σ (retK CC 52 Tryd.f52 σ) :=
  evalF_succ Tryd.prog CC (fn := Tryd.f52) (N := 93) rfl Tryd.func52 body_52 rfl dst_52 name_52 hasR_52 h
theorem body_53 : Tryd.f53.body = some (Tryd.f53.body.getD .skip) := rfl
theorem dst_53 : dstOk 29 (Tryd.f53.body.getD .skip) = true := by kernel_rfl
theorem name_53 : (Tryd.f53.name != "runtime.NumGoroutine") = true := by kernel_rfl
theorem hasR_53 : hasR (Tryd.f53.body.getD .skip) = false := by kernel_rfl
theorem run_53 (d : Nat) (args : List AV) (σ : St) (h : args.length ≤ 29) : evalF Tryd.prog CC (d + 1) 53 args σ = evalCode CC (evalF Tryd.prog CC d) 53 (Tryd.f53.body.getD .skip) (entryEnv args) σ (retK CC 53 Tryd.f53 σ) :=
  evalF_succ Tryd.prog CC (fn := Tryd.f53) (N := 29) rfl Tryd.func53 body_53 rfl dst_53 name_53 hasR_53 h
theorem body_54 : Tryd.f54.body = some (Tryd.f54.body.getD .skip) := rfl
theorem dst_54 : dstOk 11 (Tryd.f54.body.getD .skip) = true := by kernel_rfl
theorem name_54 : (Tryd.f54.name != "runtime.NumGoroutine") = true := by kernel_rfl
theorem hasR_54 : hasR (Tryd.f54.body.getD .skip) = false := by kernel_rfl
theorem run_54 (d : Nat) (args : List AV) (σ : St) (h : args.length ≤ 11) : evalF Tryd.prog CC (d + 1) 54 args σ = evalCode CC (evalF Tryd.prog CC d) 54 (Tryd.f54.body.getD .skip) (entryEnv args) σ (retK CC 54 Tryd.f54 σ) :=
  evalF_succ Tryd.prog CC (fn := Tryd.f54) (N := 11) rfl Tryd.func54 body_54 rfl dst_54 name_54 hasR_54 h
theorem body_55 : Tryd.f55.body = some (Tryd.f55.body.getD .skip) := rfl
theorem dst_55 : dstOk 38 (Tryd.f55.body.getD .skip) = true := by kernel_rfl
theorem name_55 : (Tryd.f55.name != "runtime.NumGoroutine") = true := by kernel_rfl
theorem hasR_55 : hasR (Tryd.f55.body.getD .skip) = false := by kernel_rfl
theorem run_55 (d : Nat) (args : List AV) (σ : St) (h : args.length ≤ 38) : evalF Tryd.prog CC (d + 1) 55 args σ = evalCode CC (evalF Tryd.prog CC d) 55 (Tryd.f55.body.getD .skip) (entryEnv args) σ (retK CC 55 Tryd.f55 σ) :=
  evalF_succ Tryd.prog CC (fn := Tryd.f55) (N := 38) rfl Tryd.func55 body_55 rfl dst_55 name_55 hasR_55 h
theorem body_56 : Tryd.f56.body = some (Tryd.f56.body.getD .skip) := rfl
theorem dst_56 : dstOk 22 (Tryd.f56.body.getD .skip) = true := by kernel_rfl
theorem name_56 : (Tryd.f56.name != "runtime.NumGoroutine") = true := by kernel_rfl
theorem hasR_56 : hasR (Tryd.f56.body.getD .skip) = false := by kernel_rfl
theorem run_56 (d : Nat) (args : List AV) (σ : St) (h : args.length ≤ 22) : evalF Tryd.prog CC (d + 1) 56 args σ = evalCode CC (evalF Tryd.prog CC d) 56 (Tryd.f56.body.getD .skip) (entryEnv args) σ (retK CC 56 Tryd.f56 σ) :=
  evalF_succ Tryd.prog CC (fn := Tryd.f56) (N := 22) rfl Tryd.func56 body_56 rfl dst_56 name_56 hasR_56 h
theorem body_57 : Tryd.f57.body = some (Tryd.f57.body.getD .skip) := rfl
theorem dst_57 : dstOk 9 (Tryd.f57.body.getD .skip) = true := by kernel_rfl
theorem name_57 : (Tryd.f57.name != "runtime.NumGoroutine") = true := by kernel_rfl
theorem hasR_57 : hasR (Tryd.f57.body.getD .skip) = false := by kernel_rfl
theorem run_57 (d : Nat) (args : List AV) (σ : St) (h : args.length ≤ 9) : evalF Tryd.prog CC (d + 1) 57 args σ = evalCode CC (evalF Tryd.prog CC d) 57 (Tryd.f57.body.getD .skip) (entryEnv args) σ (retK CC 57 Tryd.f57 σ) :=
  evalF_succ Tryd.prog CC (fn := Tryd.f57) (N := 9) rfl Tryd.func57 body_57 rfl dst_57 name_57 hasR_57 h
theorem body_58 : Tryd.f58.body = some (Tryd.f58.body.getD .skip) := rfl
theorem dst_58 : dstOk 91 (Tryd.f58.body.getD .skip) = true := by kernel_rfl
theorem name_58 : (Tryd.f58.name != "runtime.NumGoroutine") = true := by kernel_rfl
theorem hasR_58 : hasR (Tryd.f58.body.getD .skip) = false := by kernel_rfl
theorem run_58 (d : Nat) (args : List AV) (σ : St) (h : args.length ≤ 91) : evalF Tryd.prog CC (d + 1) 58 args σ = evalCode CC (evalF Tryd.prog CC d) 58 (Tryd.f58.body.getD .skip) (entryEnv args) σ (retK CC 58 Tryd.f58 σ) :=
  evalF_succ Tryd.prog CC (fn := Tryd.f58) (N := 91) rfl Tryd.func58 body_58 rfl dst_58 name_58 hasR_58 h
theorem body_59 : Tryd.f59.body = some (Tryd.f59.body.getD .skip) := rfl
theorem dst_59 : dstOk 12 (Tryd.f59.body.getD .skip) = true := by kernel_rfl
theorem name_59 : (Tryd.f59.name != "runtime.NumGoroutine") = true := by kernel_rfl
theorem hasR_59 : hasR (Tryd.f59.body.getD .skip) = false := by kernel_rfl
theorem run_59 (d : Nat) (args : List AV) (σ : St) (h : args.length ≤ 12) : evalF Tryd.prog CC (d + 1) 59 args σ = evalCode CC (evalF Tryd.prog CC d) 59 (Tryd.f59.body.getD .skip) (entryEnv args) σ (retK CC 59 Tryd.f59 σ) :=
  evalF_succ Tryd.prog CC (fn := Tryd.f59) (N := 12) rfl Tryd.func59 body_59 rfl dst_59 name_59 hasR_59 h
theorem body_60 : Tryd.f60.body = some (Tryd.f60.body.getD .skip) := rfl
theorem dst_60 : dstOk 11 (Tryd.f60.body.getD .skip) = true := by kernel_rfl
theorem name_60 : (Tryd.f60.name != "runtime.NumGoroutine") = true := by kernel_rfl
theorem hasR_60 : hasR (Tryd.f60.body.getD .skip) = false := by kernel_rfl
theorem run_60 (d : Nat) (args : List AV) (σ : St) (h : args.length ≤ 11) : evalF Tryd.prog CC (d + 1) 60 args σ = evalCode CC (evalF Tryd.prog CC d) 60 (Tryd.f60.body.getD .skip) (entryEnv args) σ (retK CC 60 Tryd.f60 σ) :=
  evalF_succ Tryd.prog CC (fn := Tryd.f60) (N := 11) rfl Tryd.func60 body_60 rfl dst_60 name_60 hasR_60 h
theorem body_61 : Tryd.f61.body = some (Tryd.f61.body.getD .skip) := rfl
theorem dst_61 : dstOk 10 (Tryd.f61.body.getD .skip) = true := by kernel_rfl
theorem name_61 : (Tryd.f61.name != "runtime.NumGoroutine") = true := by kernel_rfl
theorem hasR_61 : hasR (Tryd.f61.body.getD .skip) = false := by kernel_rfl
theorem run_61 (d : Nat) (args : List AV) (σ : St) (h : args.length ≤ 10) : evalF Tryd.prog CC (d + 1) 61 args σ = evalCode CC (evalF Tryd.prog CC d) 61 (Tryd.f61.body.getD .skip) (entryEnv args) σ (retK CC 61 Tryd.f61 σ) :=
  evalF_succ Tryd.prog CC (fn := Tryd.f61) (N := 10) rfl Tryd.func61 body_61 rfl dst_61 name_61 hasR_61 h
theorem body_62 : Tryd.f62.body = some (Tryd.f62.body.getD .skip) := rfl
theorem dst_62 : dstOk 27 (Tryd.f62.body.getD .skip) = true := by kernel_rfl
theorem name_62 : (Tryd.f62.name != "runtime.NumGoroutine") = true := by kernel_rfl
theorem hasR_62 : hasR (Tryd.f62.body.getD .skip) = false := by kernel_rfl
theorem run_62 (d : Nat) (args : List AV) (σ : St) (h : args.length ≤ 27) : evalF Tryd.prog CC (d + 1) 62 args σ = evalCode CC (evalF Tryd.prog CC d) 62 (Tryd.f62.body.getD .skip) (entryEnv args) σ (retK CC 62 Tryd.f62 σ) :=
  evalF_succ Tryd.prog CC (fn := Tryd.f62) (N := 27) rfl Tryd.func62 body_62 rfl dst_62 name_62 hasR_62 h
theorem body_63 : Tryd.f63.body = some (Tryd.f63.body.getD .skip) := rfl
theorem dst_63 : dstOk 43 (Tryd.f63.body.getD .skip) = true := by kernel_rfl
theorem name_63 : (Tryd.f63.name != "runtime.NumGoroutine") = true := by kernel_rfl
theorem hasR_63 : hasR (Tryd.f63.body.getD .skip) = true := by kernel_rfl
theorem run_63 (d : Nat) (args : List AV) (σ : St) (h : args.length ≤ 43) : evalF Tryd.prog CC (d + 1) 63 args σ = evalR Tryd.prog CC (evalF Tryd.prog CC d) 63 (Tryd.f63.body.getD .skip) (entryEnv args) σ (retK CC 63 Tryd.f63 σ) :=
  evalF_succR Tryd.prog CC (fn := Tryd.f63) (N := 43) rfl Tryd.func63 body_63 rfl dst_63 name_63 hasR_63 h
theorem body_64 : Tryd.f64.body = some (Tryd.f64.body.getD .skip) := rfl
theorem dst_64 : dstOk 10 (Tryd.f64.body.getD .skip) = true := by kernel_rfl
theorem name_64 : (Tryd.f64.name != "runtime.NumGoroutine") = true := by kernel_rfl
theorem hasR_64 : hasR (Tryd.f64.body.getD .skip) = false := by kernel_rfl
theorem run_64 (d : Nat) (args : List AV) (σ : St) (h : args.length ≤ 10) : evalF Tryd.prog CC (d + 1) 64 args σ = evalCode CC (evalF Tryd.prog CC d) 64 (Tryd.f64.body.getD .skip) (entryEnv args) σ (retK CC 64 Tryd.f64 σ) :=
  evalF_succ Tryd.prog CC (fn := Tryd.f64) (N := 10) rfl Tryd.func64 body_64 rfl dst_64 name_64 hasR_64 h
theorem body_65 : Tryd.f65.body = some (Tryd.f65.body.getD .skip) := rfl
theorem dst_65 : dstOk 30 (Tryd.f65.body.getD .skip) = true := by kernel_rfl
theorem name_65 : (Tryd.f65.name != "runtime.NumGoroutine") = true := by kernel_rfl
theorem hasR_65 : hasR (Tryd.f65.body.getD .skip) = false := by kernel_rfl
theorem run_65 (d : Nat) (args : List AV) (σ : St) (h : args.length ≤ 30) : evalF Tryd.prog CC (d + 1) 65 args σ = evalCode CC (evalF Tryd.prog CC d) 65 (Tryd.f65.body.getD .skip) (entryEnv args) σ (retK CC 65 Tryd.f65 σ) :=
  evalF_succ Tryd.prog CC (fn := Tryd.f65) (N := 30) rfl Tryd.func65 body_65 rfl dst_65 name_65 hasR_65 h
theorem body_66 : Tryd.f66.body = some (Tryd.f66.body.getD .skip) := rfl
theorem dst_66 : dstOk 35 (Tryd.f66.body.getD .skip) = true := by kernel_rfl
theorem name_66 : (Tryd.f66.name != "runtime.NumGoroutine") = true := by kernel_rfl
theorem hasR_66 : hasR (Tryd.f66.body.getD .skip) = false := by kernel_rfl
theorem run_66 (d : Nat) (args : List AV) (σ : St) (h : args.length ≤ 35) : evalF Tryd.prog CC (d + 1) 66 args σ = evalCode CC (evalF Tryd.prog CC d) 66 (Tryd.f66.body.getD .skip) (entryEnv args) σ (retK CC 66 Tryd.f66 σ) :=
  evalF_succ Tryd.prog CC (fn := Tryd.f66) (N := 35) rfl Tryd.func66 body_66 rfl dst_66 name_66 hasR_66 h
theorem body_67 : Tryd.f67.body = some (Tryd.f67.body.getD .skip) := rfl
theorem dst_67 : dstOk 10 (Tryd.f67.body.getD .skip) = true := by kernel_rfl
theorem name_67 : (Tryd.f67.name != "runtime.NumGoroutine") = true := by kernel_rfl
theorem hasR_67 : hasR (Tryd.f67.body.getD .skip) = false := by kernel_rfl
theorem run_67 (d : Nat) (args : List AV) (σ : St) (h : args.length ≤ 10) : evalF Tryd.prog CC (d + 1) 67 args σ = evalCode CC (evalF Tryd.prog CC d) 67 (Tryd.f67.body.getD .skip) (entryEnv args) σ (retK CC 67 Tryd.f67 σ) :=
  evalF_succ Tryd.prog CC (fn := Tryd.f67) (N := 10) rfl Tryd.func67 body_67 rfl dst_67 name_67 hasR_67 h
theorem body_68 : Tryd.f68.body = some (Tryd.f68.body.getD .skip) := rfl
theorem dst_68 : dstOk 20 (Tryd.f68.body.getD .skip) = true := by kernel_rfl
theorem name_68 : (Tryd.f68.name != "runtime.NumGoroutine") = true := by kernel_rfl
theorem hasR_68 : hasR (Tryd.f68.body.getD .skip) = false := by kernel_rfl
theorem run_68 (d : Nat) (args : List AV) (σ : St) (h : args.length ≤ 20) : evalF Tryd.prog CC (d + 1) 68 args σ = evalCode CC (evalF Tryd.prog CC d) 68 (Tryd.f68.body.getD .skip) (entryEnv args) σ (retK CC 68 Tryd.f68 σ) :=
  evalF_succ Tryd.prog CC (fn := Tryd.f68) (N := 20) rfl Tryd.func68 body_68 rfl dst_68 name_68 hasR_68 h
theorem body_69 : Tryd.f69.body = some (Tryd.f69.body.getD .skip) := rfl
theorem dst_69 : dstOk 33 (Tryd.f69.body.getD .skip) = true := by kernel_rfl
theorem name_69 : (Tryd.f69.name != "runtime.NumGoroutine") = true := by kernel_rfl
theorem hasR_69 : hasR (Tryd.f69.body.getD .skip) = false := by kernel_rfl
theorem run_69 (d : Nat) (args : List AV) (σ : St) (h : args.length ≤ 33) : evalF Tryd.prog CC (d + 1) 69 args σ = evalCode CC (evalF Tryd.prog CC d) 69 (Tryd.f69.body.getD .skip) (entryEnv args) σ (retK CC 69 Tryd.f69 σ) :=
  evalF_succ Tryd.prog CC (fn := Tryd.f69) (N := 33) rfl Tryd.func69 body_69 rfl dst_69 name_69 hasR_69 h
theorem body_70 : Tryd.f70.body = some (Tryd.f70.body.getD .skip) := rfl
theorem dst_70 : dstOk 9 (Tryd.f70.body.getD .skip) = true := by kernel_rfl
theorem name_70 : (Tryd.f70.name != "runtime.NumGoroutine") = true := by kernel_rfl
theorem hasR_70 : hasR (Tryd.f70.body.getD .skip) = false := by kernel_rfl
theorem run_70 (d : Nat) (args : List AV) (σ : St) (h : args.length ≤ 9) : evalF Tryd.prog CC (d + 1) 70 args σ = evalCode CC (evalF Tryd.prog CC d) 70 (Tryd.f70.body.getD .skip) (entryEnv args) σ (retK CC 70 Tryd.f70 σ) :=
  evalF_succ Tryd.prog CC (fn := Tryd.f70) (N := 9) rfl Tryd.func70 body_70 rfl dst_70 name_70 hasR_70 h
theorem body_71 : Tryd.f71.body = some (Tryd.f71.body.getD .skip) := rfl
theorem dst_71 : dstOk 50 (Tryd.f71.body.getD .skip) = true := by kernel_rfl
theorem name_71 : (Tryd.f71.name != "runtime.NumGoroutine") = true := by kernel_rfl
theorem hasR_71 : hasR (Tryd.f71.body.getD .skip) = false := by kernel_rfl
theorem run_71 (d : Nat) (args : List AV) (σ : St) (h : args.length ≤ 50) : evalF Tryd.prog CC (d + 1) 71 args σ = evalCode CC (evalF Tryd.prog CC d) 71 (Tryd.f71.body.getD .skip) (entryEnv args) σ (retK CC 71 Tryd.f71 σ) :=
  evalF_succ Tryd.prog CC (fn := Tryd.f71) (N := 50) rfl Tryd.func71 body_71 rfl dst_71 name_71 hasR_71 h
theorem body_72 : Tryd.f72.body = some (Tryd.f72.body.getD .skip) := rfl
theorem dst_72 : dstOk 99 (Tryd.f72.body.getD .skip) = true := by kernel_rfl
theorem name_72 : (Tryd.f72.name != "runtime.NumGoroutine") = true := by kernel_rfl
theorem hasR_72 : hasR (Tryd.f72.body.getD .skip) = false := by kernel_rfl
theorem run_72 (d : Nat) (args : List AV) (σ : St) (h : args.length ≤ 99) : evalF Tryd.prog CC (d + 1) 72 args σ = evalCode CC (evalF Tryd.prog CC d) 72 (Tryd.f72.body.getD .skip) (entryEnv args) σ (retK CC 72 Tryd.f72 σ) :=
  evalF_succ Tryd.prog CC (fn := Tryd.f72) (N := 99) rfl Tryd.func72 body_72 rfl dst_72 name_72 hasR_72 h
theorem body_73 : Tryd.f73.body = some (Tryd.f73.body.getD .skip) := rfl
theorem dst_73 : dstOk 46 (Tryd.f73.body.getD .skip) = true := by kernel_rfl
theorem name_73 : (Tryd.f73.name != "runtime.NumGoroutine") = true := by kernel_rfl
theorem hasR_73 : hasR (Tryd.f73.body.getD .skip) = false := by kernel_rfl
theorem run_73 (d : Nat) (args : List AV) (σ : St) (h : args.length ≤ 46) : evalF Tryd.prog CC (d + 1) 73 args σ = evalCode CC (evalF Tryd.prog CC d) 73 (Tryd.f73.body.getD .skip) (entryEnv args) σ (retK CC 73 Tryd.f73 σ) :=
  evalF_succ Tryd.prog CC (fn := Tryd.f73) (N := 46) rfl Tryd.func73 body_73 rfl dst_73 name_73 hasR_73 h
theorem body_74 : Tryd.f74.body = some (Tryd.f74.body.getD .skip) := rfl
theorem dst_74 : dstOk 14 (Tryd.f74.body.getD .skip) = true := by kernel_rfl
theorem name_74 : (Tryd.f74.name != "runtime.NumGoroutine") = true := by kernel_rfl
theorem hasR_74 : hasR (Tryd.f74.body.getD .skip) = false := by kernel_rfl
theorem run_74 (d : Nat) (args : List AV) (σ : St) (h : args.length ≤ 14) : evalF Tryd.prog CC (d + 1) 74 args σ = evalCode CC (evalF Tryd.prog CC d) 74 (Tryd.f74.body.getD .skip) (entryEnv args) σ (retK CC 74 Tryd.f74 σ) :=
  evalF_succ Tryd.prog CC (fn := Tryd.f74) (N := 14) rfl Tryd.func74 body_74 rfl dst_74 name_74 hasR_74 h
theorem body_75 : Tryd.f75.body = some (Tryd.f75.body.getD .skip) := rfl
theorem dst_75 : dstOk 13 (Tryd.f75.body.getD .skip) = true := by kernel_rfl
theorem name_75 : (Tryd.f75.name != "runtime.NumGoroutine") = true := by kernel_rfl
theorem hasR_75 : hasR (Tryd.f75.body.getD .skip) = false := by kernel_rfl
theorem run_75 (d : Nat) (args : List AV) (σ : St) (h : args.length ≤ 13) : evalF Tryd.prog CC (d + 1) 75 args σ = evalCode CC (evalF Tryd.prog CC d) 75 (Tryd.f75.body.getD .skip) (entryEnv args) σ (retK CC 75 Tryd.f75 σ) :=
  evalF_succ Tryd.prog CC (fn := Tryd.f75) (N := 13) rfl Tryd.func75 body_75 rfl dst_75 name_75 hasR_75 h
theorem body_76 : Tryd.f76.body = some (Tryd.f76.body.getD .skip) := rfl
theorem dst_76 : dstOk 51 (Tryd.f76.body.getD .skip) = true := by kernel_rfl
theorem name_76 : (Tryd.f76.name != "runtime.NumGoroutine") = true := by kernel_rfl
theorem hasR_76 : hasR (Tryd.f76.body.getD .skip) = false := by kernel_rfl
theorem run_76 (d : Nat) (args : List AV) (σ : St) (h : args.length ≤ 51) : evalF Tryd.prog CC (d + 1) 76 args σ = evalCode CC (evalF Tryd.prog CC d) 76 (Tryd.f76.body.getD .skip) (entryEnv args) σ (retK CC 76 Tryd.f76 σ) :=
  evalF_succ Tryd.prog CC (fn := Tryd.f76) (N := 51) rfl Tryd.func76 body_76 rfl dst_76 name_76 hasR_76 h
theorem body_77 : Tryd.f77.body = some (Tryd.f77.body.getD .skip) := rfl
theorem dst_77 : dstOk 27 (Tryd.f77.body.getD .skip) = true := by kernel_rfl
theorem name_77 : (Tryd.f77.name != "runtime.NumGoroutine") = true := by kernel_rfl
theorem hasR_77 : hasR (Tryd.f77.body.getD .skip) = false := by kernel_rfl
theorem run_77 (d : Nat) (args : List AV) (σ : St) (h : args.length ≤ 27) : evalF Tryd.prog CC (d + 1) 77 args σ = evalCode CC (evalF Tryd.prog CC d) 77 (Tryd.f77.body.getD .skip) (entryEnv args) σ (retK CC 77 Tryd.f77 σ) :=
  evalF_succ Tryd.prog CC (fn := Tryd.f77) (N := 27) rfl Tryd.func77 body_77 rfl dst_77 name_77 hasR_77 h
theorem body_78 : Tryd.f78.body = some (Tryd.f78.body.getD .skip) := rfl
theorem dst_78 : dstOk 17 (Tryd.f78.body.getD .skip) = true := by kernel_rfl
theorem name_78 : (Tryd.f78.name != "runtime.NumGoroutine") = true := by kernel_rfl
theorem hasR_78 : hasR (Tryd.f78.body.getD .skip) = false := by kernel_rfl
theorem run_78 (d : Nat) (args : List AV) (σ : St) (h : args.length ≤ 17) : evalF Tryd.prog CC (d + 1) 78 args σ = evalCode CC (evalF Tryd.prog CC d) 78 (Tryd.f78.body.getD .skip) (entryEnv args) σ (retK CC 78 Tryd.f78 σ) :=
  evalF_succ Tryd.prog CC (fn := Tryd.f78) (N := 17) rfl Tryd.func78 body_78 rfl dst_78 name_78 hasR_78 h
theorem body_79 : Tryd.f79.body = some (Tryd.f79.body.getD .skip) := rfl
theorem dst_79 : dstOk 16 (Tryd.f79.body.getD .skip) = true := by kernel_rfl
theorem name_79 : (Tryd.f79.name != "runtime.NumGoroutine") = true := by kernel_rfl
theorem hasR_79 : hasR (Tryd.f79.body.getD .skip) = false := by kernel_rfl
theorem run_79 (d : Nat) (args : List AV) (σ : St) (h : args.length ≤ 16) : evalF Tryd.prog CC (d + 1) 79 args σ = evalCode CC (evalF Tryd.prog CC d) 79 (Tryd.f79.body.getD .skip) (entryEnv args) σ (retK CC 79 Tryd.f79 σ) :=
  evalF_succ Tryd.prog CC (fn := Tryd.f79) (N := 16) rfl Tryd.func79 body_79 rfl dst_79 name_79 hasR_79 h
theorem body_80 : Tryd.f80.body = some (Tryd.f80.body.getD .skip) := rfl
theorem dst_80 : dstOk 5 (Tryd.f80.body.getD .skip) = true := by kernel_rfl
theorem name_80 : (Tryd.f80.name != "runtime.NumGoroutine") = true := by kernel_rfl
theorem hasR_80 : hasR (Tryd.f80.body.getD .skip) = false := by kernel_rfl
theorem run_80 (d : Nat) (args : List AV) (σ : St) (h : args.length ≤ 5) : evalF Tryd.prog CC (d + 1) 80 args σ = evalCode CC (evalF Tryd.prog CC d) 80 (Tryd.f80.body.getD .skip) (entryEnv args) σ (retK CC 80 Tryd.f80 σ) :=
  evalF_succ Tryd.prog CC (fn := Tryd.f80) (N := 5) rfl Tryd.func80 body_80 rfl dst_80 name_80 hasR_80 h
theorem body_81 : Tryd.f81.body = some (Tryd.f81.body.getD .skip) := rfl
theorem dst_81 : dstOk 12 (Tryd.f81.body.getD .skip) = true := by kernel_rfl
theorem name_81 : (Tryd.f81.name != "runtime.NumGoroutine") = true := by kernel_rfl
theorem hasR_81 : hasR (Tryd.f81.body.getD .skip) = false := by kernel_rfl
theorem run_81 (d : Nat) (args : List AV) (σ : St) (h : args.length ≤ 12) : evalF Tryd.prog CC (d + 1) 81 args σ = evalCode CC (evalF Tryd.prog CC d) 81 (Tryd.f81.body.getD .skip) (entryEnv args) σ (retK CC 81 Tryd.f81 σ) :=
  evalF_succ Tryd.prog CC (fn := Tryd.f81) (N := 12) rfl Tryd.func81 body_81 rfl dst_81 name_81 hasR_81 h
theorem body_82 : Tryd.f82.body = some (Tryd.f82.body.getD .skip) := rfl
theorem dst_82 : dstOk 16 (Tryd.f82.body.getD .skip) = true := by kernel_rfl
theorem name_82 : (Tryd.f82.name != "runtime.NumGoroutine") = true := by kernel_rfl
theorem hasR_82 : hasR (Tryd.f82.body.getD .skip) = false := by kernel_rfl
theorem run_82 (d : Nat) (args : List AV) (σ : St) (h : args.length ≤ 16) : evalF Tryd.prog CC (d + 1) 82 args σ = evalCode CC (evalF Tryd.prog CC d) 82 (Tryd.f82.body.getD .skip) (entryEnv args) σ (retK CC 82 Tryd.f82 σ) :=
  evalF_succ Tryd.prog CC (fn := Tryd.f82) (N := 16) rfl Tryd.func82 body_82 rfl dst_82 name_82 hasR_82 h
theorem body_83 : Tryd.f83.body = some (Tryd.f83.body.getD .skip) := rfl
theorem dst_83 : dstOk 16 (Tryd.f83.body.getD .skip) = true := by kernel_rfl
theorem name_83 : (Tryd.f83.name != "runtime.NumGoroutine") = true := by kernel_rfl
theorem hasR_83 : hasR (Tryd.f83.body.getD .skip) = false := by kernel_rfl
theorem run_83 (d : Nat) (args : List AV) (σ : St) (h : args.length ≤ 16) : evalF Tryd.prog CC (d + 1) 83 args σ = evalCode CC (evalF Tryd.prog CC d) 83 (Tryd.f83.body.getD .skip) (entryEnv args) σ (retK CC 83 Tryd.f83 σ) :=
  evalF_succ Tryd.prog CC (fn := Tryd.f83) (N := 16) rfl Tryd.func83 body_83 rfl dst_83 name_83 hasR_83 h
theorem body_84 : Tryd.f84.body = some (Tryd.f84.body.getD .skip) := rfl
theorem dst_84 : dstOk 7 (Tryd.f84.body.getD .skip) = true := by kernel_rfl
theorem name_84 : (Tryd.f84.name != "runtime.NumGoroutine") = true := by kernel_rfl
theorem hasR_84 : hasR (Tryd.f84.body.getD .skip) = false := by kernel_rfl
theorem run_84 (d : Nat) (args : List AV) (σ : St) (h : args.length ≤ 7) : evalF Tryd.prog CC (d + 1) 84 args σ = evalCode CC (evalF Tryd.prog CC d) 84 (Tryd.f84.body.getD .skip) (entryEnv args) σ (retK CC 84 Tryd.f84 σ) :=
  evalF_succ Tryd.prog CC (fn := Tryd.f84) (N := 7) rfl Tryd.func84 body_84 rfl dst_84 name_84 hasR_84 h
theorem body_85 : Tryd.f85.body = some (Tryd.f85.body.getD .skip) := rfl
theorem dst_85 : dstOk 14 (Tryd.f85.body.getD .skip) = true := by kernel_rfl
theorem name_85 : (Tryd.f85.name != "runtime.NumGoroutine") = true := by kernel_rfl
theorem hasR_85 : hasR (Tryd.f85.body.getD .skip) = false := by kernel_rfl
theorem run_85 (d : Nat) (args : List AV) (σ : St) (h : args.length ≤ 14) : evalF Tryd.prog CC (d + 1) 85 args σ = evalCode CC (evalF Tryd.prog CC d) 85 (Tryd.f85.body.getD .skip) (entryEnv args) σ (retK CC 85 Tryd.f85 σ) :=
  evalF_succ Tryd.prog CC (fn := Tryd.f85) (N := 14) rfl Tryd.func85 body_85 rfl dst_85 name_85 hasR_85 h
theorem body_86 : Tryd.f86.body = some (Tryd.f86.body.getD .skip) := rfl
theorem dst_86 : dstOk 12 (Tryd.f86.body.getD .skip) = true := by kernel_rfl
theorem name_86 : (Tryd.f86.name != "runtime.NumGoroutine") = true := by kernel_rfl
theorem hasR_86 : hasR (Tryd.f86.body.getD .skip) = false := by kernel_rfl
theorem run_86 (d : Nat) (args : List AV) (σ : St) (h : args.length ≤ 12) : evalF Tryd.prog CC (d + 1) 86 args σ = evalCode CC (evalF Tryd.prog CC d) 86 (Tryd.f86.body.getD .skip) (entryEnv args) σ (retK CC 86 Tryd.f86 σ) :=
  evalF_succ Tryd.prog CC (fn := Tryd.f86) (N := 12) rfl Tryd.func86 body_86 rfl dst_86 name_86 hasR_86 h
theorem body_87 : Tryd.f87.body = some (Tryd.f87.body.getD .skip) := rfl
theorem dst_87 : dstOk 15 (Tryd.f87.body.getD .skip) = true := by kernel_rfl
theorem name_87 : (Tryd.f87.name != "runtime.NumGoroutine") = true := by kernel_rfl
theorem hasR_87 : hasR (Tryd.f87.body.getD .skip) = false := by kernel_rfl
theorem run_87 (d : Nat) (args : List AV) (σ : St) (h : args.length ≤ 15) : evalF Tryd.prog CC (d + 1) 87 args σ = evalCode CC (evalF Tryd.prog CC d) 87 (Tryd.f87.body.getD .skip) (entryEnv args) σ (retK CC 87 Tryd.f87 σ) :=
  evalF_succ Tryd.prog CC (fn := Tryd.f87) (N := 15) rfl Tryd.func87 body_87 rfl dst_87 name_87 hasR_87 h
theorem body_88 : Tryd.f88.body = some (Tryd.f88.body.getD .skip) := rfl
theorem dst_88 : dstOk 23 (Tryd.f88.body.getD .skip) = true := by kernel_rfl
theorem name_88 : (Tryd.f88.name != "runtime.NumGoroutine") = true := by kernel_rfl
theorem hasR_88 : hasR (Tryd.f88.body.getD .skip) = false := by kernel_rfl
theorem run_88 (d : Nat) (args : List AV) (σ : St) (h : args.length ≤ 23) : evalF Tryd.prog CC (d + 1) 88 args σ = evalCode CC (evalF Tryd.prog CC d) 88 (Tryd.f88.body.getD .skip) (entryEnv args) σ (retK CC 88 Tryd.f88 σ) :=
  evalF_succ Tryd.prog CC (fn := Tryd.f88) (N := 23) rfl Tryd.func88 body_88 rfl dst_88 name_88 hasR_88 h
theorem body_89 : Tryd.f89.body = some (Tryd.f89.body.getD .skip) := rfl
theorem dst_89 : dstOk 68 (Tryd.f89.body.getD .skip) = true := by kernel_rfl
theorem name_89 : (Tryd.f89.name != "runtime.NumGoroutine") = true := by kernel_rfl
theorem hasR_89 : hasR (Tryd.f89.body.getD .skip) = false := by kernel_rfl
theorem run_89 (d : Nat) (args : List AV) (σ : St) (h : args.length ≤ 68) : evalF Tryd.prog CC (d + 1) 89 args σ = evalCode CC (evalF Tryd.prog CC d) 89 (Tryd.f89.body.getD .skip) (entryEnv args) σ (retK CC 89 Tryd.f89 σ) :=
  evalF_succ Tryd.prog CC (fn := Tryd.f89) (N := 68) rfl Tryd.func89 body_89 rfl dst_89 name_89 hasR_89 h
theorem body_90 : Tryd.f90.body = some (Tryd.f90.body.getD .skip) := rfl
theorem dst_90 : dstOk 9 (Tryd.f90.body.getD .skip) = true := by kernel_rfl
theorem name_90 : (Tryd.f90.name != "runtime.NumGoroutine") = true := by kernel_rfl
theorem hasR_90 : hasR (Tryd.f90.body.getD .skip) = false := by kernel_rfl
theorem run_90 (d : Nat) (args : List AV) (σ : St) (h : args.length ≤ 9) : evalF Tryd.prog CC (d + 1) 90 args σ = evalCode CC (evalF Tryd.prog CC d) 90 (Tryd.f90.body.getD .skip) (entryEnv args) σ (retK CC 90 Tryd.f90 σ) :=
  evalF_succ Tryd.prog CC (fn := Tryd.f90) (N := 9) rfl Tryd.func90 body_90 rfl dst_90 name_90 hasR_90 h
theorem body_91 : Tryd.f91.body = some (Tryd.f91.body.getD .skip) := rfl
theorem dst_91 : dstOk 14 (Tryd.f91.body.getD .skip) = true := by kernel_rfl
theorem name_91 : (Tryd.f91.name != "runtime.NumGoroutine") = true := by kernel_rfl
theorem hasR_91 : hasR (Tryd.f91.body.getD .skip) = false := by kernel_rfl
theorem run_91 (d : Nat) (args : List AV) (σ : St) (h : args.length ≤ 14) : evalF Tryd.prog CC (d + 1) 91 args σ = evalCode CC (evalF Tryd.prog CC d) 91 (Tryd.f91.body.getD .skip) (entryEnv args) σ (retK CC 91 Tryd.f91 σ) :=
  evalF_succ Tryd.prog CC (fn := Tryd.f91) (N := 14) rfl Tryd.func91 body_91 rfl dst_91 name_91 hasR_91 h
theorem body_92 : Tryd.f92.body = some (Tryd.f92.body.getD .skip) := rfl
theorem dst_92 : dstOk 31 (Tryd.f92.body.getD .skip) = true := by kernel_rfl
theorem name_92 : (Tryd.f92.name != "runtime.NumGoroutine") = true := by kernel_rfl
theorem hasR_92 : hasR (Tryd.f92.body.getD .skip) = false := by kernel_rfl
theorem run_92 (d : Nat) (args : List AV) (σ : St) (h : args.length ≤ 31) : evalF Tryd.prog CC (d + 1) 92 args σ = evalCode CC (evalF Tryd.prog CC d) 92 (Tryd.f92.body.getD .skip) (entryEnv args) σ (retK CC 92 Tryd.f92 σ) :=
  evalF_succ Tryd.prog CC (fn := Tryd.f92) (N := 31) rfl Tryd.func92 body_92 rfl dst_92 name_92 hasR_92 h
theorem body_93 : Tryd.f93.body = some (Tryd.f93.body.getD .skip) := rfl
theorem dst_93 : dstOk 24 (Tryd.f93.body.getD .skip) = true := by kernel_rfl
theorem name_93 : (Tryd.f93.name != "runtime.NumGoroutine") = true := by kernel_rfl
theorem hasR_93 : hasR (Tryd.f93.body.getD .skip) = false := by kernel_rfl
theorem run_93 (d : Nat) (args : List AV) (σ : St) (h : args.length ≤ 24) : evalF Tryd.prog CC (d + 1) 93 args σ = evalCode CC (evalF Tryd.prog CC d) 93 (Tryd.f93.body.getD .skip) (entryEnv args) σ (retK CC 93 Tryd.f93 σ) :=
  evalF_succ Tryd.prog CC (fn := Tryd.f93) (N := 24) rfl Tryd.func93 body_93 rfl dst_93 name_93 hasR_93 h
theorem body_94 : Tryd.f94.body = some (Tryd.f94.body.getD .skip) := rfl
theorem dst_94 : dstOk 118 (Tryd.f94.body.getD .skip) = true := by kernel_rfl
theorem name_94 : (Tryd.f94.name != "runtime.NumGoroutine") = true := by kernel_rfl
theorem hasR_94 : hasR (Tryd.f94.body.getD .skip) = false := by kernel_rfl
theorem run_94 (d : Nat) (args : List AV) (σ : St) (h : args.length ≤ 118) : evalF Tryd.prog CC (d + 1) 94 args σ = evalCode CC (evalF Tryd.prog CC d) 94 (Tryd.f94.body.getD .skip) (entryEnv args) σ (retK CC 94 Tryd.f94 σ) :=
  evalF_succ Tryd.prog CC (fn := Tryd.f94) (N := 118) rfl Tryd.func94 body_94 rfl dst_94 name_94 hasR_94 h
theorem body_95 : Tryd.f95.body = some (Tryd.f95.body.getD .skip) := rfl
theorem dst_95 : dstOk 18 (Tryd.f95.body.getD .skip) = true := by kernel_rfl
theorem name_95 : (Tryd.f95.name != "runtime.NumGoroutine") = true := by kernel_rfl
theorem hasR_95 : hasR (Tryd.f95.body.getD .skip) = false := by kernel_rfl
theorem run_95 (d : Nat) (args : List AV) (σ : St) (h : args.length ≤ 18) : evalF Tryd.prog CC (d + 1) 95 args σ = evalCode CC (evalF Tryd.prog CC d) 95 (Tryd.f95.body.getD .skip) (entryEnv args) σ (retK CC 95 Tryd.f95 σ) :=
  evalF_succ Tryd.prog CC (fn := Tryd.f95) (N := 18) rfl Tryd.func95 body_95 rfl dst_95 name_95 hasR_95 h
theorem body_96 : Tryd.f96.body = some (Tryd.f96.body.getD .skip) := rfl
theorem dst_96 : dstOk 21 (Tryd.f96.body.getD .skip) = true := by kernel_rfl
theorem name_96 : (Tryd.f96.name != "runtime.NumGoroutine") = true := by kernel_rfl
theorem hasR_96 : hasR (Tryd.f96.body.getD .skip) = false := by kernel_rfl
theorem run_96 (d : Nat) (args : List AV) (σ : St) (h : args.length ≤ 21) : evalF Tryd.prog CC (d + 1) 96 args σ = evalCode CC (evalF Tryd.prog CC d) 96 (Tryd.f96.body.getD .skip) (entryEnv args) σ (retK CC 96 Tryd.f96 σ) :=
  evalF_succ Tryd.prog CC (fn := Tryd.f96) (N := 21) rfl Tryd.func96 body_96 rfl dst_96 name_96 hasR_96 h
theorem body_97 : Tryd.f97.body = some (Tryd.f97.body.getD .skip) := rfl
theorem dst_97 : dstOk 27 (Tryd.f97.body.getD .skip) = true := by kernel_rfl
theorem name_97 : (Tryd.f97.name != "runtime.NumGoroutine") = true := by kernel_rfl
theorem hasR_97 : hasR (Tryd.f97.body.getD .skip) = false := by kernel_rfl
theorem run_97 (d : Nat) (args : List AV) (σ : St) (h : args.length ≤ 27) : evalF Tryd.prog CC (d + 1) 97 args σ = evalCode CC (evalF Tryd.prog CC d) 97 (Tryd.f97.body.getD .skip) (entryEnv args) σ (retK CC 97 Tryd.f97 σ) :=
  evalF_succ Tryd.prog CC (fn := Tryd.f97) (N := 27) rfl Tryd.func97 body_97 rfl dst_97 name_97 hasR_97 h
theorem body_98 : Tryd.f98.body = some (Tryd.f98.body.getD .skip) := rfl
theorem dst_98 : dstOk 60 (Tryd.f98.body.getD .skip) = true := by kernel_rfl
theorem name_98 : (Tryd.f98.name != "runtime.NumGoroutine") = true := by kernel_rfl
theorem hasR_98 : hasR (Tryd.f98.body.getD .skip) = false := by kernel_rfl
theorem run_98 (d : Nat) (args : List AV) (σ : St) (h : args.length ≤ 60) : evalF Tryd.prog CC (d + 1) 98 args σ = evalCode CC (evalF Tryd.prog CC d) 98 (Tryd.f98.body.getD .skip) (entryEnv args) σ (retK CC 98 Tryd.f98 σ) :=
  evalF_succ Tryd.prog CC (fn := Tryd.f98) (N := 60) rfl Tryd.func98 body_98 rfl dst_98 name_98 hasR_98 h
theorem body_99 : Tryd.f99.body = some (Tryd.f99.body.getD .skip) := rfl
theorem dst_99 : dstOk 27 (Tryd.f99.body.getD .skip) = true := by kernel_rfl
theorem name_99 : (Tryd.f99.name != "runtime.NumGoroutine") = true := by kernel_rfl
theorem hasR_99 : hasR (Tryd.f99.body.getD .skip) = false := by kernel_rfl
theorem run_99 (d : Nat) (args : List AV) (σ : St) (h : args.length ≤ 27) : evalF Tryd.prog CC (d + 1) 99 args σ = evalCode CC (evalF Tryd.prog CC d) 99 (Tryd.f99.body.getD .skip) (entryEnv args) σ (retK CC 99 Tryd.f99 σ) :=
  evalF_succ Tryd.prog CC (fn := Tryd.f99) (N := 27) rfl Tryd.func99 body_99 rfl dst_99 name_99 hasR_99 h
theorem body_100 : Tryd.f100.body = some (Tryd.f100.body.getD .skip) := rfl
theorem dst_100 : dstOk 134 (Tryd.f100.body.getD .skip) = true := by kernel_rfl
theorem name_100 : (Tryd.f100.name != "runtime.NumGoroutine") = true := by kernel_rfl
theorem hasR_100 : hasR (Tryd.f100.body.getD .skip) = false := by kernel_rfl
theorem run_100 (d : Nat) (args : List AV) (σ : St) (h : args.length ≤ 134) : evalF Tryd.prog CC (d + 1) 100 args σ = evalCode CC (evalF Tryd.prog CC d) 100 (Tryd.f100.body.getD .skip) (entryEnv args) σ (retK CC 100 Tryd.f100 σ) :=
  evalF_succ Tryd.prog CC (fn := Tryd.f100) (N := 134) rfl Tryd.func100 body_100 rfl dst_100 name_100 hasR_100 h
theorem body_101 : Tryd.f101.body = some (Tryd.f101.body.getD .skip) := rfl
theorem dst_101 : dstOk 8 (Tryd.f101.body.getD .skip) = true := by kernel_rfl
theorem name_101 : (Tryd.f101.name != "runtime.NumGoroutine") = true := by kernel_rfl
theorem hasR_101 : hasR (Tryd.f101.body.getD .skip) = false := by kernel_rfl
theorem run_101 (d : Nat) (args : List AV) (σ : St) (h : args.length ≤ 8) : evalF Tryd.prog CC (d + 1) 101 args σ = evalCode CC (evalF Tryd.prog CC d) 101 (Tryd.f101.body.getD .skip) (entryEnv args) σ (retK CC 101 Tryd.f101 σ) :=
  evalF_succ Tryd.prog CC (fn := Tryd.f101) (N := 8) rfl Tryd.func101 body_101 rfl dst_101 name_101 hasR_101 h
theorem body_102 : Tryd.f102.body = some (Tryd.f102.body.getD .skip) := rfl
theorem dst_102 : dstOk 6 (Tryd.f102.body.getD .skip) = true := by kernel_rfl
theorem name_102 : (Tryd.f102.name != "runtime.NumGoroutine") = true := by kernel_rfl
theorem hasR_102 : hasR (Tryd.f102.body.getD .skip) = false := by kernel_rfl
theorem run_102 (d : Nat) (args : List AV) (σ : St) (h : args.length ≤ 6) : evalF Tryd.prog CC (d + 1) 102 args σ = evalCode CC (evalF Tryd.prog CC d) 102 (Tryd.f102.body.getD .skip) (entryEnv args) σ (retK CC 102 Tryd.f102 σ) :=
  evalF_succ Tryd.prog CC (fn := Tryd.f102) (N := 6) rfl Tryd.func102 body_102 rfl dst_102 name_102 hasR_102 h
theorem body_103 : Tryd.f103.body = some (Tryd.f103.body.getD .skip) := rfl
theorem dst_103 : dstOk 34 (Tryd.f103.body.getD .skip) = true := by kernel_rfl
theorem name_103 : (Tryd.f103.name != "runtime.NumGoroutine") = true := by kernel_rfl
theorem hasR_103 : hasR (Tryd.f103.body.getD .skip) = false := by kernel_rfl
theorem run_103 (d : Nat) (args : List AV) (σ : St) (h : args.length ≤ 34) : evalF Tryd.prog CC (d + 1) 103 args σ = evalCode CC (evalF Tryd.prog CC d) 103 (Tryd.f103.body.getD .skip) (entryEnv args) σ (retK CC 103 Tryd.f103 σ) :=
  evalF_succ Tryd.prog CC (fn := Tryd.f103) (N := 34) rfl Tryd.func103 body_103 rfl dst_103 name_103 hasR_103 h
theorem body_104 : Tryd.f104.body = some (Tryd.f104.body.getD .skip) := rfl
theorem dst_104 : dstOk 9 (Tryd.f104.body.getD .skip) = true := by kernel_rfl
theorem name_104 : (Tryd.f104.name != "runtime.NumGoroutine") = true := by kernel_rfl
theorem hasR_104 : hasR (Tryd.f104.body.getD .skip) = false := by kernel_rfl
theorem run_104 (d : Nat) (args : List AV) (σ : St) (h : args.length ≤ 9) : evalF Tryd.prog CC (d + 1) 104 args σ = evalCode CC (evalF Tryd.prog CC d) 104 (Tryd.f104.body.getD .skip) (entryEnv args) σ (retK CC 104 Tryd.f104 σ) :=
  evalF_succ Tryd.prog CC (fn := Tryd.f104) (N := 9) rfl Tryd.func104 body_104 rfl dst_104 name_104 hasR_104 h
theorem body_105 : Tryd.f105.body = some (Tryd.f105.body.getD .skip) := rfl
theorem dst_105 : dstOk 9 (Tryd.f105.body.getD .skip) = true := by kernel_rfl
theorem name_105 : (Tryd.f105.name != "runtime.NumGoroutine") = true := by kernel_rfl
theorem hasR_105 : hasR (Tryd.f105.body.getD .skip) = false := by kernel_rfl
theorem run_105 (d : Nat) (args : List AV) (σ : St) (h : args.length ≤ 9) : evalF Tryd.prog CC (d + 1) 105 args σ = evalCode CC (evalF Tryd.prog CC d) 105 (Tryd.f105.body.getD .skip) (entryEnv args) σ (retK CC 105 Tryd.f105 σ) :=
  evalF_succ Tryd.prog CC (fn := Tryd.f105) (N := 9) rfl Tryd.func105 body_105 rfl dst_105 name_105 hasR_105 h
theorem body_106 : Tryd.f106.body = some (Tryd.f106.body.getD .skip) := rfl
theorem dst_106 : dstOk 27 (Tryd.f106.body.getD .skip) = true := by kernel_rfl
theorem name_106 : (Tryd.f106.name != "runtime.NumGoroutine") = true := by kernel_rfl
theorem hasR_106 : hasR (Tryd.f106.body.getD .skip) = false := by kernel_rfl
theorem run_106 (d : Nat) (args : List AV) (σ : St) (h : args.length ≤ 27) : evalF Tryd.prog CC (d + 1) 106 args σ = evalCode CC (evalF Tryd.prog CC d) 106 (Tryd.f106.body.getD .skip) (entryEnv args) σ (retK CC 106 Tryd.f106 σ) :=
  evalF_succ Tryd.prog CC (fn := Tryd.f106) (N := 27) rfl Tryd.func106 body_106 rfl dst_106 name_106 hasR_106 h
theorem body_107 : Tryd.f107.body = some (Tryd.f107.body.getD .skip) := rfl
theorem dst_107 : dstOk 34 (Tryd.f107.body.getD .skip) = true := by kernel_rfl
theorem name_107 : (Tryd.f107.name != "runtime.NumGoroutine") = true := by kernel_rfl
theorem hasR_107 : hasR (Tryd.f107.body.getD .skip) = false := by kernel_rfl
theorem run_107 (d : Nat) (args : List AV) (σ : St) (h : args.length ≤ 34) : evalF Tryd.prog CC (d + 1) 107 args σ = evalCode CC (evalF Tryd.prog CC d) 107 (Tryd.f107.body.getD .skip) (entryEnv args) σ (retK CC 107 Tryd.f107 σ) :=
  evalF_succ Tryd.prog CC (fn := Tryd.f107) (N := 34) rfl Tryd.func107 body_107 rfl dst_107 name_107 hasR_107 h
theorem body_108 : Tryd.f108.body = some (Tryd.f108.body.getD .skip) := rfl
theorem dst_108 : dstOk 13 (Tryd.f108.body.getD .skip) = true := by kernel_rfl
theorem name_108 : (Tryd.f108.name != "runtime.NumGoroutine") = true := by kernel_rfl
theorem hasR_108 : hasR (Tryd.f108.body.getD .skip) = false := by kernel_rfl
theorem run_108 (d : Nat) (args : List AV) (σ : St) (h : args.length ≤ 13) : evalF Tryd.prog CC (d + 1) 108 args σ = evalCode CC (evalF Tryd.prog CC d) 108 (Tryd.f108.body.getD .skip) (entryEnv args) σ (retK CC 108 Tryd.f108 σ) :=
  evalF_succ Tryd.prog CC (fn := Tryd.f108) (N := 13) rfl Tryd.func108 body_108 rfl dst_108 name_108 hasR_108 h
theorem body_109 : Tryd.f109.body = some (Tryd.f109.body.getD .skip) := rfl
theorem dst_109 : dstOk 146 (Tryd.f109.body.getD .skip) = true := by kernel_rfl
theorem name_109 : (Tryd.f109.name != "runtime.NumGoroutine") = true := by kernel_rfl
theorem hasR_109 : hasR (Tryd.f109.body.getD .skip) = false := by kernel_rfl
theorem run_109 (d : Nat) (args : List AV) (σ : St) (h : args.length ≤ 146) : evalF Tryd.prog CC (d + 1) 109 args σ = evalCode CC (evalF Tryd.prog CC d) 109 (Tryd.f109.body.getD .skip) (entryEnv args) σ (retK CC 109 Tryd.f109 σ) :=
  evalF_succ Tryd.prog CC (fn := Tryd.f109) (N := 146) rfl Tryd.func109 body_109 rfl dst_109 name_109 hasR_109 h
theorem body_110 : Tryd.f110.body = some (Tryd.f110.body.getD .skip) := rfl
theorem dst_110 : dstOk 14 (Tryd.f110.body.getD .skip) = true := by kernel_rfl
theorem name_110 : (Tryd.f110.name != "runtime.NumGoroutine") = true := by kernel_rfl
theorem hasR_110 : hasR (Tryd.f110.body.getD .skip) = false := by kernel_rfl
theorem run_110 (d : Nat) (args : List AV) (σ : St) (h : args.length ≤ 14) : evalF Tryd.prog CC (d + 1) 110 args σ = evalCode CC (evalF Tryd.prog CC d) 110 (Tryd.f110.body.getD .skip) (entryEnv args) σ (retK CC 110 Tryd.f110 σ) :=
  evalF_succ Tryd.prog CC (fn := Tryd.f110) (N := 14) rfl Tryd.func110 body_110 rfl dst_110 name_110 hasR_110 h
theorem body_111 : Tryd.f111.body = some (Tryd.f111.body.getD .skip) := rfl
theorem dst_111 : dstOk 18 (Tryd.f111.body.getD .skip) = true := by kernel_rfl
theorem name_111 : (Tryd.f111.name != "runtime.NumGoroutine") = true := by kernel_rfl
theorem hasR_111 : hasR (Tryd.f111.body.getD .skip) = false := by kernel_rfl
theorem run_111 (d : Nat) (args : List AV) (σ : St) (h : args.length ≤ 18) : evalF Tryd.prog CC (d + 1) 111 args σ = evalCode CC (evalF Tryd.prog CC d) 111 (Tryd.f111.body.getD .skip) (entryEnv args) σ (retK CC 111 Tryd.f111 σ) :=
  evalF_succ Tryd.prog CC (fn := Tryd.f111) (N := 18) rfl Tryd.func111 body_111 rfl dst_111 name_111 hasR_111 h
theorem body_112 : Tryd.f112.body = some (Tryd.f112.body.getD .skip) := rfl
theorem dst_112 : dstOk 18 (Tryd.f112.body.getD .skip) = true := by kernel_rfl
theorem name_112 : (Tryd.f112.name != "runtime.NumGoroutine") = true := by kernel_rfl
theorem hasR_112 : hasR (Tryd.f112.body.getD .skip) = false := by kernel_rfl
theorem run_112 (d : Nat) (args : List AV) (σ : St) (h : args.length ≤ 18) : evalF Tryd.prog CC (d + 1) 112 args σ = evalCode CC (evalF Tryd.prog CC d) 112 (Tryd.f112.body.getD .skip) (entryEnv args) σ (retK CC 112 Tryd.f112 σ) :=
  evalF_succ Tryd.prog CC (fn := Tryd.f112) (N := 18) rfl Tryd.func112 body_112 rfl dst_112 name_112 hasR_112 h
theorem body_113 : Tryd.f113.body = some (Tryd.f113.body.getD .skip) := rfl
theorem dst_113 : dstOk 12 (Tryd.f113.body.getD .skip) = true := by kernel_rfl
theorem name_113 : (Tryd.f113.name != "runtime.NumGoroutine") = true := by kernel_rfl
theorem hasR_113 : hasR (Tryd.f113.body.getD .skip) = false := by kernel_rfl
theorem run_113 (d : Nat) (args : List AV) (σ : St) (h : args.length ≤ 12) : evalF Tryd.prog CC (d + 1) 113 args σ = evalCode CC (evalF Tryd.prog CC d) 113 (Tryd.f113.body.getD .skip) (entryEnv args) σ (retK CC 113 Tryd.f113 σ) :=
  evalF_succ Tryd.prog CC (fn := Tryd.f113) (N := 12) rfl Tryd.func113 body_113 rfl dst_113 name_113 hasR_113 h
theorem body_114 : Tryd.f114.body = some (Tryd.f114.body.getD .skip) := rfl
theorem dst_114 : dstOk 30 (Tryd.f114.body.getD .skip) = true := by kernel_rfl
theorem name_114 : (Tryd.f114.name != "runtime.NumGoroutine") = true := by kernel_rfl
theorem hasR_114 : hasR (Tryd.f114.body.getD .skip) = false := by kernel_rfl
theorem run_114 (d : Nat) (args : List AV) (σ : St) (h : args.length ≤ 30) : evalF Tryd.prog CC (d + 1) 114 args σ = evalCode CC (evalF Tryd.prog CC d) 114 (Tryd.f114.body.getD .skip) (entryEnv args) σ (retK CC 114 Tryd.f114 σ) :=
  evalF_succ Tryd.prog CC (fn := Tryd.f114) (N := 30) rfl Tryd.func114 body_114 rfl dst_114 name_114 hasR_114 h
theorem body_115 : Tryd.f115.body = some (Tryd.f115.body.getD .skip) := rfl
theorem dst_115 : dstOk 49 (Tryd.f115.body.getD .skip) = true := by kernel_rfl
theorem name_115 : (Tryd.f115.name != "runtime.NumGoroutine") = true := by kernel_rfl
theorem hasR_115 : hasR (Tryd.f115.body.getD .skip) = false := by kernel_rfl
theorem run_115 (d : Nat) (args : List AV) (σ : St) (h : args.length ≤ 49) : evalF Tryd.prog CC (d + 1) 115 args σ = evalCode CC (evalF Tryd.prog CC d) 115 (Tryd.f115.body.getD .skip) (entryEnv args) σ (retK CC 115 Tryd.f115 σ) :=
  evalF_succ Tryd.prog CC (fn := Tryd.f115) (N := 49) rfl Tryd.func115 body_115 rfl dst_115 name_115 hasR_115 h
theorem body_116 : Tryd.f116.body = some (Tryd.f116.body.getD .skip) := rfl
theorem dst_116 : dstOk 56 (Tryd.f116.body.getD .skip) = true := by kernel_rfl
theorem name_116 : (Tryd.f116.name != "runtime.NumGoroutine") = true := by kernel_rfl
theorem hasR_116 : hasR (Tryd.f116.body.getD .skip) = false := by kernel_rfl
theorem run_116 (d : Nat) (args : List AV) (σ : St) (h : args.length ≤ 56) : evalF Tryd.prog CC (d + 1) 116 args σ = evalCode CC (evalF Tryd.prog CC d) 116 (Tryd.f116.body.getD .skip) (entryEnv args) σ (retK CC 116 Tryd.f116 σ) :=
  evalF_succ Tryd.prog CC (fn := Tryd.f116) (N := 56) rfl Tryd.func116 body_116 rfl dst_116 name_116 hasR_116 h
theorem body_117 : Tryd.f117.body = some (Tryd.f117.body.getD .skip) := rfl
theorem dst_117 : dstOk 65 (Tryd.f117.body.getD .skip) = true := by kernel_rfl
theorem name_117 : (Tryd.f117.name != "runtime.NumGoroutine") = true := by kernel_rfl
theorem hasR_117 : hasR (Tryd.f117.body.getD .skip) = false := by kernel_rfl
theorem run_117 (d : Nat) (args : List AV) (σ : St) (h : args.length ≤ 65) : evalF Tryd.prog CC (d + 1) 117 args σ = evalCode CC (evalF Tryd.prog CC d) 117 (Tryd.f117.body.getD .skip) (entryEnv args) σ (retK CC 117 Tryd.f117 σ) :=
  evalF_succ Tryd.prog CC (fn := Tryd.f117) (N := 65) rfl Tryd.func117 body_117 rfl dst_117 name_117 hasR_117 h
theorem body_118 : Tryd.f118.body = some (Tryd.f118.body.getD .skip) := rfl
theorem dst_118 : dstOk 57 (Tryd.f118.body.getD .skip) = true := by kernel_rfl
theorem name_118 : (Tryd.f118.name != "runtime.NumGoroutine") = true := by kernel_rfl
theorem hasR_118 : hasR (Tryd.f118.body.getD .skip) = false := by kernel_rfl
theorem run_118 (d : Nat) (args : List AV) (σ : St) (h : args.length ≤ 57) : evalF Tryd.prog CC (d + 1) 118 args σ = evalCode CC (evalF Tryd.prog CC d) 118 (Tryd.f118.body.getD .skip) (entryEnv args) σ (retK CC 118 Tryd.f118 σ) :=
  evalF_succ Tryd.prog CC (fn := Tryd.f118) (N := 57) rfl Tryd.func118 body_118 rfl dst_118 name_118 hasR_118 h
theorem body_119 : Tryd.f119.body = some (Tryd.f119.body.getD .skip) := rfl
theorem dst_119 : dstOk 32 (Tryd.f119.body.getD .skip) = true := by kernel_rfl
theorem name_119 : (Tryd.f119.name != "runtime.NumGoroutine") = true := by kernel_rfl
theorem hasR_119 : hasR (Tryd.f119.body.getD .skip) = false := by kernel_rfl
theorem run_119 (d : Nat) (args : List AV) (σ : St) (h : args.length ≤ 32) : evalF Tryd.prog CC (d + 1) 119 args σ = evalCode CC (evalF Tryd.prog CC d) 119 (Tryd.f119.body.getD .skip) (entryEnv args) σ (retK CC 119 Tryd.f119 σ) :=
  evalF_succ Tryd.prog CC (fn := Tryd.f119) (N := 32) rfl Tryd.func119 body_119 rfl dst_119 name_119 hasR_119 h
theorem body_120 : Tryd.f120.body = some (Tryd.f120.body.getD .skip) := rfl
theorem dst_120 : dstOk 133 (Tryd.f120.body.getD .skip) = true := by kernel_rfl
theorem name_120 : (Tryd.f120.name != "runtime.NumGoroutine") = true := by kernel_rfl
theorem hasR_120 : hasR (Tryd.f120.body.getD .skip) = false := by kernel_rfl
theorem run_120 (d : Nat) (args : List AV) (σ : St) (h : args.length ≤ 133) : evalF Tryd.prog CC (d + 1) 120 args σ = evalCode CC (evalF Tryd.prog CC d) 120 (Tryd.f120.body.getD .skip) (entryEnv args) σ (retK CC 120 Tryd.f120 σ) :=
  evalF_succ Tryd.prog CC (fn := Tryd.f120) (N := 133) rfl Tryd.func120 body_120 rfl dst_120 name_120 hasR_120 h
theorem body_121 : Tryd.f121.body = some (Tryd.f121.body.getD .skip) := rfl
theorem dst_121 : dstOk 17 (Tryd.f121.body.getD .skip) = true := by kernel_rfl
theorem name_121 : (Tryd.f121.name != "runtime.NumGoroutine") = true := by kernel_rfl
theorem hasR_121 : hasR (Tryd.f121.body.getD .skip) = false := by kernel_rfl
theorem run_121 (d : Nat) (args : List AV) (σ : St) (h : args.length ≤ 17) : evalF Tryd.prog CC (d + 1) 121 args σ = evalCode CC (evalF Tryd.prog CC d) 121 (Tryd.f121.body.getD .skip) (entryEnv args) σ (retK CC 121 Tryd.f121 σ) :=
  evalF_succ Tryd.prog CC (fn := Tryd.f121) (N := 17) rfl Tryd.func121 body_121 rfl dst_121 name_121 hasR_121 h
theorem body_122 : Tryd.f122.body = some (Tryd.f122.body.getD .skip) := rfl
theorem dst_122 : dstOk 84 (Tryd.f122.body.getD .skip) = true := by kernel_rfl
theorem name_122 : (Tryd.f122.name != "runtime.NumGoroutine") = true := by kernel_rfl
theorem hasR_122 : hasR (Tryd.f122.body.getD .skip) = false := by kernel_rfl
theorem run_122 (d : Nat) (args : List AV) (σ : St) (h : args.length ≤ 84) : evalF Tryd.prog CC (d + 1) 122 args σ = evalCode CC (evalF Tryd.prog CC d) 122 (Tryd.f122.body.getD .skip) (entryEnv args) σ (retK CC 122 Tryd.f122 σ) :=
  evalF_succ Tryd.prog CC (fn := Tryd.f122) (N := 84) rfl Tryd.func122 body_122 rfl dst_122 name_122 hasR_122 h
theorem body_123 : Tryd.f123.body = some (Tryd.f123.body.getD .skip) := rfl
theorem dst_123 : dstOk 168 (Tryd.f123.body.getD .skip) = true := by kernel_rfl
theorem name_123 : (Tryd.f123.name != "runtime.NumGoroutine") = true := by kernel_rfl
theorem hasR_123 : hasR (Tryd.f123.body.getD .skip) = false := by kernel_rfl
theorem run_123 (d : Nat) (args : List AV) (σ : St) (h : args.length ≤ 168) : evalF Tryd.prog CC (d + 1) 123 args σ = evalCode CC (evalF Tryd.prog CC d) 123 (Tryd.f123.body.getD .skip) (entryEnv args) σ (retK CC 123 Tryd.f123 σ) :=
  evalF_succ Tryd.prog CC (fn := Tryd.f123) (N := 168) rfl Tryd.func123 body_123 rfl dst_123 name_123 hasR_123 h
theorem body_124 : Tryd.f124.body = some (Tryd.f124.body.getD .skip) := rfl
theorem dst_124 : dstOk 19 (Tryd.f124.body.getD .skip) = true := by kernel_rfl
theorem name_124 : (Tryd.f124.name != "runtime.NumGoroutine") = true := by kernel_rfl
theorem hasR_124 : hasR (Tryd.f124.body.getD .skip) = false := by kernel_rfl
theorem run_124 (d : Nat) (args : List AV) (σ : St) (h : args.length ≤ 19) : evalF Tryd.prog CC (d + 1) 124 args σ = evalCode CC (evalF Tryd.prog CC d) 124 (Tryd.f124.body.getD .skip) (entryEnv args) σ (retK CC 124 Tryd.f124 σ) :=
  evalF_succ Tryd.prog CC (fn := Tryd.f124) (N := 19) rfl Tryd.func124 body_124 rfl dst_124 name_124 hasR_124 h
theorem body_125 : Tryd.f125.body = some (Tryd.f125.body.getD .skip) := rfl
theorem dst_125 : dstOk 25 (Tryd.f125.body.getD .skip) = true := by kernel_rfl
theorem name_125 : (Tryd.f125.name != "runtime.NumGoroutine") = true := by kernel_rfl
theorem hasR_125 : hasR (Tryd.f125.body.getD .skip) = false := by kernel_rfl
theorem run_125 (d : Nat) (args : List AV) (σ : St) (h : args.length ≤ 25) : evalF Tryd.prog CC (d + 1) 125 args σ = evalCode CC (evalF Tryd.prog CC d) 125 (Tryd.f125.body.getD .skip) (entryEnv args) σ (retK CC 125 Tryd.f125 σ) :=
  evalF_succ Tryd.prog CC (fn := Tryd.f125) (N := 25) rfl Tryd.func125 body_125 rfl dst_125 name_125 hasR_125 h
theorem body_126 : Tryd.f126.body = some (Tryd.f126.body.getD .skip) := rfl
theorem dst_126 : dstOk 21 (Tryd.f126.body.getD .skip) = true := by kernel_rfl
theorem name_126 : (Tryd.f126.name != "runtime.NumGoroutine") = true := by kernel_rfl
theorem hasR_126 : hasR (Tryd.f126.body.getD .skip) = false := by kernel_rfl
theorem run_126 (d : Nat) (args : List AV) (σ : St) (h : args.length ≤ 21) : evalF Tryd.prog CC (d + 1) 126 args σ = evalCode CC (evalF Tryd.prog CC d) 126 (Tryd.f126.body.getD .skip) (entryEnv args) σ (retK CC 126 Tryd.f126 σ) :=
  evalF_succ Tryd.prog CC (fn := Tryd.f126) (N := 21) rfl Tryd.func126 body_126 rfl dst_126 name_126 hasR_126 h
theorem body_127 : Tryd.f127.body = some (Tryd.f127.body.getD .skip) := rfl
theorem dst_127 : dstOk 19 (Tryd.f127.body.getD .skip) = true := by kernel_rfl
theorem name_127 : (Tryd.f127.name != "runtime.NumGoroutine") = true := by kernel_rfl
theorem hasR_127 : hasR (Tryd.f127.body.getD .skip) = false := by kernel_rfl
theorem run_127 (d : Nat) (args : List AV) (σ : St) (h : args.length ≤ 19) : evalF Tryd.prog CC (d + 1) 127 args σ = evalCode CC (evalF Tryd.prog CC d) 127 (Tryd.f127.body.getD .skip) (entryEnv args) σ (retK CC 127 Tryd.f127 σ) :=
  evalF_succ Tryd.prog CC (fn := Tryd.f127) (N := 19) rfl Tryd.func127 body_127 rfl dst_127 name_127 hasR_127 h
theorem body_128 : Tryd.f128.body = some (Tryd.f128.body.getD .skip) := rfl
theorem dst_128 : dstOk 31 (Tryd.f128.body.getD .skip) = true := by kernel_rfl
theorem name_128 : (Tryd.f128.name != "runtime.NumGoroutine") = true := by kernel_rfl
theorem hasR_128 : hasR (Tryd.f128.body.getD .skip) = false := by kernel_rfl
theorem run_128 (d : Nat) (args : List AV) (σ : St) (h : args.length ≤ 31) : evalF Tryd.prog CC (d + 1) 128 args σ = evalCode CC (evalF Tryd.prog CC d) 128 (Tryd.f128.body.getD .skip) (entryEnv args) σ (retK CC 128 Tryd.f128 σ) :=
  evalF_succ Tryd.prog CC (fn := Tryd.f128) (N := 31) rfl Tryd.func128 body_128 rfl dst_128 name_128 hasR_128 h
theorem body_130 : Tryd.f130.body = some (Tryd.f130.body.getD .skip) := rfl
theorem dst_130 : dstOk 20 (Tryd.f130.body.getD .skip) = true := by kernel_rfl
theorem name_130 : (Tryd.f130.name != "runtime.NumGoroutine") = true := by kernel_rfl
theorem hasR_130 : hasR (Tryd.f130.body.getD .skip) = false := by kernel_rfl
theorem run_130 (d : Nat) (args : List AV) (σ : St) (h : args.length ≤ 20) : evalF Tryd.prog CC (d + 1) 130 args σ = evalCode CC (evalF Tryd.prog CC d) 130 (Tryd.f130.body.getD .skip) (entryEnv args) σ (retK CC 130 Tryd.f130 σ) :=
  evalF_succ Tryd.prog CC (fn := Tryd.f130) (N := 20) rfl Tryd.func130 body_130 rfl dst_130 name_130 hasR_130 h
theorem body_131 : Tryd.f131.body = some (Tryd.f131.body.getD .skip) := rfl
theorem dst_131 : dstOk 29 (Tryd.f131.body.getD .skip) = true := by kernel_rfl
theorem name_131 : (Tryd.f131.name != "runtime.NumGoroutine") = true := by kernel_rfl
theorem hasR_131 : hasR (Tryd.f131.body.getD .skip) = false := by kernel_rfl
theorem run_131 (d : Nat) (args : List AV) (σ : St) (h : args.length ≤ 29) : evalF Tryd.prog CC (d + 1) 131 args σ = evalCode CC (evalF Tryd.prog CC d) 131 (Tryd.f131.body.getD .skip) (entryEnv args) σ (retK CC 131 Tryd.f131 σ) :=
  evalF_succ Tryd.prog CC (fn := Tryd.f131) (N := 29) rfl Tryd.func131 body_131 rfl dst_131 name_131 hasR_131 h
theorem body_132 : Tryd.f132.body = some (Tryd.f132.body.getD .skip) := rfl
theorem dst_132 : dstOk 14 (Tryd.f132.body.getD .skip) = true := by kernel_rfl
theorem name_132 : (Tryd.f132.name != "runtime.NumGoroutine") = true := by kernel_rfl
theorem hasR_132 : hasR (Tryd.f132.body.getD .skip) = false := by kernel_rfl
theorem run_132 (d : Nat) (args : List AV) (σ : St) (h : args.length ≤ 14) : evalF Tryd.prog CC (d + 1) 132 args σ = evalCode CC (evalF Tryd.prog CC d) 132 (Tryd.f132.body.getD .skip) (entryEnv args) σ (retK CC 132 Tryd.f132 σ) :=
  evalF_succ Tryd.prog CC (fn := Tryd.f132) (N := 14) rfl Tryd.func132 body_132 rfl dst_132 name_132 hasR_132 h
theorem body_133 : Tryd.f133.body = some (Tryd.f133.body.getD .skip) := rfl
theorem dst_133 : dstOk 20 (Tryd.f133.body.getD .skip) = true := by kernel_rfl
theorem name_133 : (Tryd.f133.name != "runtime.NumGoroutine") = true := by kernel_rfl
theorem hasR_133 : hasR (Tryd.f133.body.getD .skip) = false := by kernel_rfl
theorem run_133 (d : Nat) (args : List AV) (σ : St) (h : args.length ≤ 20) : evalF Tryd.prog CC (d + 1) 133 args σ = evalCode CC (evalF Tryd.prog CC d) 133 (Tryd.f133.body.getD .skip) (entryEnv args) σ (retK CC 133 Tryd.f133 σ) :=
  evalF_succ Tryd.prog CC (fn := Tryd.f133) (N := 20) rfl Tryd.func133 body_133 rfl dst_133 name_133 hasR_133 h
theorem body_134 : Tryd.f134.body = some (Tryd.f134.body.getD .skip) := rfl
theorem dst_134 : dstOk 76 (Tryd.f134.body.getD .skip) = true := by kernel_rfl
theorem name_134 : (Tryd.f134.name != "runtime.NumGoroutine") = true := by kernel_rfl
theorem hasR_134 : hasR (Tryd.f134.body.getD .skip) = false := by kernel_rfl
theorem run_134 (d : Nat) (args : List AV) (σ : St) (h : args.length ≤ 76) : evalF Tryd.prog CC (d + 1) 134 args σ = evalCode CC (evalF Tryd.prog CC d) 134 (Tryd.f134.body.getD .skip) (entryEnv args) σ (retK CC 134 Tryd.f134 σ) :=
  evalF_succ Tryd.prog CC (fn := Tryd.f134) (N := 76) rfl Tryd.func134 body_134 rfl dst_134 name_134 hasR_134 h
theorem body_135 : Tryd.f135.body = some (Tryd.f135.body.getD .skip) := rfl
theorem dst_135 : dstOk 7 (Tryd.f135.body.getD .skip) = true := by kernel_rfl
theorem name_135 : (Tryd.f135.name != "runtime.NumGoroutine") = true := by kernel_rfl
theorem hasR_135 : hasR (Tryd.f135.body.getD .skip) = false := by kernel_rfl
theorem run_135 (d : Nat) (args : List AV) (σ : St) (h : args.length ≤ 7) : evalF Tryd.prog CC (d + 1) 135 args σ = evalCode CC (evalF Tryd.prog CC d) 135 (Tryd.f135.body.getD .skip) (entryEnv args) σ (retK CC 135 Tryd.f135 σ) :=
  evalF_succ Tryd.prog CC (fn := Tryd.f135) (N := 7) rfl Tryd.func135 body_135 rfl dst_135 name_135 hasR_135 h
theorem body_136 : Tryd.f136.body = some (Tryd.f136.body.getD .skip) := rfl
theorem dst_136 : dstOk 33 (Tryd.f136.body.getD .skip) = true := by kernel_rfl
theorem name_136 : (Tryd.f136.name != "runtime.NumGoroutine") = true := by kernel_rfl
theorem hasR_136 : hasR (Tryd.f136.body.getD .skip) = false := by kernel_rfl
theorem run_136 (d : Nat) (args : List AV) (σ : St) (h : args.length ≤ 33) : evalF Tryd.prog CC (d + 1) 136 args σ = evalCode CC (evalF Tryd.prog CC d) 136 (Tryd.f136.body.getD .skip) (entryEnv args) σ (retK CC 136 Tryd.f136 σ) :=
  evalF_succ Tryd.prog CC (fn := Tryd.f136) (N := 33) rfl Tryd.func136 body_136 rfl dst_136 name_136 hasR_136 h
theorem body_137 : Tryd.f137.body = some (Tryd.f137.body.getD .skip) := rfl
theorem dst_137 : dstOk 15 (Tryd.f137.body.getD .skip) = true := by kernel_rfl
theorem name_137 : (Tryd.f137.name != "runtime.NumGoroutine") = true := by kernel_rfl
theorem hasR_137 : hasR (Tryd.f137.body.getD .skip) = false := by kernel_rfl
theorem run_137 (d : Nat) (args : List AV) (σ : St) (h : args.length ≤ 15) : evalF Tryd.prog CC (d + 1) 137 args σ = evalCode CC (evalF Tryd.prog CC d) 137 (Tryd.f137.body.getD .skip) (entryEnv args) σ (retK CC 137 Tryd.f137 σ) :=
  evalF_succ Tryd.prog CC (fn := Tryd.f137) (N := 15) rfl Tryd.func137 body_137 rfl dst_137 name_137 hasR_137 h
theorem body_138 : Tryd.f138.body = some (Tryd.f138.body.getD .skip) := rfl
theorem dst_138 : dstOk 36 (Tryd.f138.body.getD .skip) = true := by kernel_rfl
theorem name_138 : (Tryd.f138.name != "runtime.NumGoroutine") = true := by kernel_rfl
theorem hasR_138 : hasR (Tryd.f138.body.getD .skip) = false := by kernel_rfl
theorem run_138 (d : Nat) (args : List AV) (σ : St) (h : args.length ≤ 36) : evalF Tryd.prog CC (d + 1) 138 args σ = evalCode CC (evalF Tryd.prog CC d) 138 (Tryd.f138.body.getD .skip) (entryEnv args) σ (retK CC 138 Tryd.f138 σ) :=
  evalF_succ Tryd.prog CC (fn := Tryd.f138) (N := 36) rfl Tryd.func138 body_138 rfl dst_138 name_138 hasR_138 h
theorem body_139 : Tryd.f139.body = some (Tryd.f139.body.getD .skip) := rfl
theorem dst_139 : dstOk 6 (Tryd.f139.body.getD .skip) = true := by kernel_rfl
theorem name_139 : (Tryd.f139.name != "runtime.NumGoroutine") = true := by kernel_rfl
theorem hasR_139 : hasR (Tryd.f139.body.getD .skip) = false := by kernel_rfl
theorem run_139 (d : Nat) (args : List AV) (σ : St) (h : args.length ≤ 6) : evalF Tryd.prog CC (d + 1) 139 args σ = evalCode CC (evalF Tryd.prog CC d) 139 (Tryd.f139.body.getD .skip) (entryEnv args) σ (retK CC 139 Tryd.f139 σ) :=
  evalF_succ Tryd.prog CC (fn := Tryd.f139) (N := 6) rfl Tryd.func139 body_139 rfl dst_139 name_139 hasR_139 h
theorem body_140 : Tryd.f140.body = some (Tryd.f140.body.getD .skip) := rfl
theorem dst_140 : dstOk 16 (Tryd.f140.body.getD .skip) = true := by kernel_rfl
theorem name_140 : (Tryd.f140.name != "runtime.NumGoroutine") = true := by kernel_rfl
theorem hasR_140 : hasR (Tryd.f140.body.getD .skip) = false := by kernel_rfl
theorem run_140 (d : Nat) (args : List AV) (σ : St) (h : args.length ≤ 16) : evalF Tryd.prog CC (d + 1) 140 args σ = evalCode CC (evalF Tryd.prog CC d) 140 (Tryd.f140.body.getD .skip) (entryEnv args) σ (retK CC 140 Tryd.f140 σ) :=
  evalF_succ Tryd.prog CC (fn := Tryd.f140) (N := 16) rfl Tryd.func140 body_140 rfl dst_140 name_140 hasR_140 h
theorem body_141 : Tryd.f141.body = some (Tryd.f141.body.getD .skip) := rfl
theorem dst_141 : dstOk 38 (Tryd.f141.body.getD .skip) = true := by kernel_rfl
theorem name_141 : (Tryd.f141.name != "runtime.NumGoroutine") = true := by kernel_rfl
theorem hasR_141 : hasR (Tryd.f141.body.getD .skip) = false := by kernel_rfl
theorem run_141 (d : Nat) (args : List AV) (σ : St) (h : args.length ≤ 38) : evalF Tryd.prog CC (d + 1) 141 args σ = evalCode CC (evalF Tryd.prog CC d) 141 (Tryd.f141.body.getD .skip) (entryEnv args) σ (retK CC 141 Tryd.f141 σ) :=
  evalF_succ Tryd.prog CC (fn := Tryd.f141) (N := 38) rfl Tryd.func141 body_141 rfl dst_141 name_141 hasR_141 h
theorem body_142 : Tryd.f142.body = some (Tryd.f142.body.getD .skip) := rfl
theorem dst_142 : dstOk 28 (Tryd.f142.body.getD .skip) = true := by kernel_rfl
theorem name_142 : (Tryd.f142.name != "runtime.NumGoroutine") = true := by kernel_rfl
theorem hasR_142 : hasR (Tryd.f142.body.getD .skip) = false := by kernel_rfl
theorem run_142 (d : Nat) (args : List AV) (σ : St) (h : args.length ≤ 28) : evalF Tryd.prog CC (d + 1) 142 args σ = evalCode CC (evalF Tryd.prog CC d) 142 (Tryd.f142.body.getD .skip) (entryEnv args) σ (retK CC 142 Tryd.f142 σ) :=
  evalF_succ Tryd.prog CC (fn := Tryd.f142) (N := 28) rfl Tryd.func142 body_142 rfl dst_142 name_142 hasR_142 h
theorem body_163 : Tryd.f163.body = some (Tryd.f163.body.getD .skip) := rfl
theorem dst_163 : dstOk 1 (Tryd.f163.body.getD .skip) = true := by kernel_rfl
theorem name_163 : (Tryd.f163.name != "runtime.NumGoroutine") = true := by kernel_rfl
theorem hasR_163 : hasR (Tryd.f163.body.getD .skip) = false := by kernel_rfl
theorem run_163 (d : Nat) (args : List AV) (σ : St) (h : args.length ≤ 1) : evalF Tryd.prog CC (d + 1) 163 args σ = evalCode CC (evalF Tryd.prog CC d) 163 (Tryd.f163.body.getD .skip) (entryEnv args) σ (retK CC 163 Tryd.f163 σ) :=
  evalF_succ Tryd.prog CC (fn := Tryd.f163) (N := 1) rfl Tryd.func163 body_163 rfl dst_163 name_163 hasR_163 h
end Go.Proofs.YtlkmhmiicagfmaaDoor.Va
