/- Part 13 of the texts that lead to repairApplyCard_holds. No condition. -/
import Derived.Test.YtkggkkjiidbclaaGreatDoorH12
set_option linter.unusedSimpArgs false
set_option linter.unusedVariables false
set_option linter.unnecessarySimpa false
namespace Go.Proofs.YtkggkkjiidbclaaGreatDoor
open Go Go.Abs
set_option maxRecDepth 100000
noncomputable def L3_b0 : LC := (.seq (.reg [⟨some 65, Op.binOp BinOp.lss 3 (Operand.tmp 64) (Operand.tmp 63) 3, none⟩])
  (.seq (.cond (Operand.tmp 65) .skip
  (.exit 0))
  (.seq (.block 1 (.seq (.reg [⟨some 66, Op.indexAddr 23 (Operand.tmp 62) (Operand.tmp 64), none⟩,
    ⟨some 67, Op.load 31 (Operand.tmp 66), none⟩,
    ⟨some 11, Op.alloc 31, none⟩,
    ⟨none, Op.store 31 (Operand.tmp 11) (Operand.tmp 67), none⟩])
  (.seq (.reg [⟨some 68, Op.fieldAddr 31 (Operand.tmp 11) 0, none⟩,
    ⟨some 69, Op.load 3 (Operand.tmp 68), none⟩])
  (.block 2 (.seq (.reg [⟨some 71, Op.binOp BinOp.eql 3 (Operand.tmp 69) (Operand.const (Value.int IntKind.i64 2)) 3, none⟩,
    ⟨some 70, Op.assign (Operand.tmp 71), none⟩])
  (.cond (Operand.tmp 70) (.reg [⟨some 72, Op.move (Operand.tmp 9), none⟩,
    ⟨some 73, Op.binOp BinOp.add 3 (Operand.tmp 72) (Operand.const (Value.int IntKind.i64 1)) 3, none⟩,
    ⟨some 9, Op.assign (Operand.tmp 73), none⟩])
  (.seq (.reg [⟨some 75, Op.binOp BinOp.eql 3 (Operand.tmp 69) (Operand.const (Value.int IntKind.i64 3)) 3, none⟩,
    ⟨some 74, Op.assign (Operand.tmp 75), none⟩])
  (.cond (Operand.tmp 74) (.reg [⟨some 76, Op.move (Operand.tmp 9), none⟩,
    ⟨some 77, Op.binOp BinOp.sub 3 (Operand.tmp 76) (Operand.const (Value.int IntKind.i64 1)) 3, none⟩,
    ⟨some 9, Op.assign (Operand.tmp 77), none⟩])
  .skip))))))))
  (.reg [⟨some 78, Op.binOp BinOp.add 3 (Operand.tmp 64) (Operand.const (Value.int IntKind.i64 1)) 3, none⟩,
    ⟨some 64, Op.move (Operand.tmp 78), none⟩]))))
noncomputable def L3 : LC := (.seq (.reg [⟨some 4, Op.assign (Operand.const (Value.bool false)), none⟩])
  (.seq (.seq (.reg [⟨some 12, Op.call { callee := Callee.value (Operand.func 4), args := #[], argTypes := #[] }, none⟩,
    ⟨some 13, Op.unOp UnOp.not 4 (Operand.tmp 12), none⟩,
    ⟨some 14, Op.move (Operand.tmp 13), none⟩,
    ⟨some 15, Op.move (Operand.tmp 0), some (14, false)⟩,
    ⟨some 16, Op.call { callee := Callee.builtin Builtin.len, args := #[Operand.tmp 15], argTypes := #[22] }, some (14, false)⟩,
    ⟨some 17, Op.binOp BinOp.gtr 3 (Operand.tmp 16) (Operand.const (Value.int IntKind.i64 80)) 3, some (14, false)⟩,
    ⟨some 18, Op.pick (Operand.tmp 14) (Operand.const (Value.bool true)) (Operand.tmp 17), none⟩,
    ⟨some 19, Op.move (Operand.tmp 18), none⟩,
    ⟨some 20, Op.move (Operand.tmp 1), some (19, false)⟩,
    ⟨some 21, Op.call { callee := Callee.builtin Builtin.len, args := #[Operand.tmp 20], argTypes := #[23] }, some (19, false)⟩,
    ⟨some 22, Op.binOp BinOp.gtr 3 (Operand.tmp 21) (Operand.const (Value.int IntKind.i64 40)) 3, some (19, false)⟩,
    ⟨some 23, Op.pick (Operand.tmp 19) (Operand.const (Value.bool true)) (Operand.tmp 22), none⟩])
  (.cond (Operand.tmp 23) (.seq (.reg [⟨some 24, Op.call { callee := Callee.value (Operand.func 4), args := #[], argTypes := #[] }, none⟩,
    ⟨some 4, Op.assign (Operand.tmp 24), none⟩])
  .ret)
  .skip))
  (.seq (.reg [⟨some 26, Op.move (Operand.tmp 0), none⟩,
    ⟨some 27, Op.call { callee := Callee.value (Operand.func 6), args := #[Operand.tmp 26], argTypes := #[22] }, none⟩,
    ⟨some 28, Op.move (Operand.tmp 1), none⟩,
    ⟨some 29, Op.call { callee := Callee.value (Operand.func 7), args := #[Operand.tmp 28], argTypes := #[23] }, none⟩,
    ⟨some 30, Op.call { callee := Callee.value (Operand.func 5), args := #[Operand.tmp 27, Operand.tmp 29], argTypes := #[22, 23] }, none⟩,
    ⟨some 25, Op.move (Operand.tmp 30), none⟩,
    ⟨some 31, Op.extract (Operand.tmp 25) 0, none⟩,
    ⟨some 32, Op.extract (Operand.tmp 25) 1, none⟩,
    ⟨some 5, Op.assign (Operand.tmp 31), none⟩,
    ⟨some 6, Op.assign (Operand.tmp 32), none⟩])
  (.seq (.reg [⟨some 34, Op.move (Operand.tmp 0), none⟩,
    ⟨some 35, Op.move (Operand.tmp 1), none⟩,
    ⟨some 36, Op.call { callee := Callee.value (Operand.func 8), args := #[Operand.tmp 34, Operand.tmp 35], argTypes := #[22, 23] }, none⟩,
    ⟨some 33, Op.move (Operand.tmp 36), none⟩,
    ⟨some 37, Op.extract (Operand.tmp 33) 0, none⟩,
    ⟨some 38, Op.extract (Operand.tmp 33) 1, none⟩,
    ⟨some 7, Op.assign (Operand.tmp 37), none⟩,
    ⟨some 8, Op.assign (Operand.tmp 38), none⟩])
  (.seq (.seq (.reg [⟨some 39, Op.move (Operand.tmp 6), none⟩,
    ⟨some 40, Op.move (Operand.tmp 8), none⟩,
    ⟨some 41, Op.binOp BinOp.neq 25 (Operand.tmp 39) (Operand.tmp 40) 25, none⟩,
    ⟨some 42, Op.move (Operand.tmp 41), none⟩,
    ⟨some 43, Op.move (Operand.tmp 5), some (42, false)⟩,
    ⟨some 44, Op.move (Operand.tmp 7), some (42, false)⟩,
    ⟨some 45, Op.call { callee := Callee.value (Operand.func 9), args := #[Operand.tmp 43, Operand.tmp 44], argTypes := #[22, 22] }, some (42, false)⟩,
    ⟨some 46, Op.unOp UnOp.not 4 (Operand.tmp 45), some (42, false)⟩,
    ⟨some 47, Op.pick (Operand.tmp 42) (Operand.const (Value.bool true)) (Operand.tmp 46), none⟩,
    ⟨some 48, Op.move (Operand.tmp 47), none⟩,
    ⟨some 49, Op.move (Operand.tmp 6), some (48, false)⟩,
    ⟨some 50, Op.binOp BinOp.neq 25 (Operand.tmp 49) (Operand.const (Value.int IntKind.i64 0)) 25, some (48, false)⟩,
    ⟨some 51, Op.pick (Operand.tmp 48) (Operand.const (Value.bool true)) (Operand.tmp 50), none⟩])
  (.cond (Operand.tmp 51) (.seq (.reg [⟨some 52, Op.move (Operand.tmp 6), none⟩,
    ⟨some 53, Op.move (Operand.tmp 8), none⟩,
    ⟨some 54, Op.binOp BinOp.eql 25 (Operand.tmp 52) (Operand.tmp 53) 25, none⟩,
    ⟨some 55, Op.move (Operand.tmp 54), none⟩,
    ⟨some 56, Op.move (Operand.tmp 5), some (55, true)⟩,
    ⟨some 57, Op.move (Operand.tmp 7), some (55, true)⟩,
    ⟨some 58, Op.call { callee := Callee.value (Operand.func 9), args := #[Operand.tmp 56, Operand.tmp 57], argTypes := #[22, 22] }, some (55, true)⟩,
    ⟨some 59, Op.pick (Operand.tmp 55) (Operand.tmp 58) (Operand.const (Value.bool false)), none⟩,
    ⟨some 4, Op.assign (Operand.tmp 59), none⟩])
  .ret)
  .skip))
  (.seq (.reg [⟨some 60, Op.move (Operand.tmp 0), none⟩,
    ⟨some 61, Op.call { callee := Callee.builtin Builtin.len, args := #[Operand.tmp 60], argTypes := #[22] }, none⟩,
    ⟨some 9, Op.assign (Operand.tmp 61), none⟩])
  (.seq (.seq (.reg [⟨some 62, Op.move (Operand.tmp 1), none⟩,
    ⟨some 63, Op.call { callee := Callee.builtin Builtin.len, args := #[Operand.tmp 62], argTypes := #[23] }, none⟩,
    ⟨some 64, Op.move (Operand.const (Value.int IntKind.i64 0)), none⟩])
  (.block 0 (.loop L3_b0)))
  (.seq (.reg [⟨some 79, Op.move (Operand.tmp 5), none⟩,
    ⟨some 80, Op.call { callee := Callee.builtin Builtin.len, args := #[Operand.tmp 79], argTypes := #[22] }, none⟩,
    ⟨some 81, Op.move (Operand.tmp 9), none⟩,
    ⟨some 82, Op.binOp BinOp.eql 3 (Operand.tmp 80) (Operand.tmp 81) 3, none⟩,
    ⟨some 4, Op.assign (Operand.tmp 82), none⟩])
  .ret))))))))
theorem low3 : Tryz.f3.body.bind low = some L3 := by kernel_rfl
theorem callm3 {k : Nat} {args : List AV} {H : List AO} {R : AV → List AO → Prop} (h : MX Tryz.prog k L3 (endM Tryz.prog k [ResultVar.tmp 4] R) (args ++ List.replicate (83 - args.length) (.v undef)) H) : AFn Tryz.prog 3 k args H R :=
  AFn_of_MW Tryz.func3 low3 (by decide) rfl rfl (MX_ok h)
theorem callp3 {args : List AV} {r : AV} (h : MX Tryz.prog 0 L3 (endM Tryz.prog 0 [ResultVar.tmp 4] (fun v Ho => v = r ∧ Ho = [])) (args ++ List.replicate (83 - args.length) (.v undef)) []) : APure Tryz.prog 3 args r := APure_of (callm3 h)
noncomputable def L5 : LC := (.seq (.reg [⟨some 4, Op.assign (Operand.const (Value.slice none 0 0)), none⟩,
    ⟨some 5, Op.assign (Operand.const (Value.int IntKind.i64 0)), none⟩])
  (.seq (.block 0 (.seq (.reg [⟨some 9, Op.move (Operand.tmp 0), none⟩,
    ⟨some 10, Op.call { callee := Callee.builtin Builtin.len, args := #[Operand.tmp 9], argTypes := #[22] }, none⟩,
    ⟨some 11, Op.binOp BinOp.gtr 3 (Operand.tmp 10) (Operand.const (Value.int IntKind.i64 60)) 3, none⟩,
    ⟨some 12, Op.move (Operand.tmp 11), none⟩,
    ⟨some 13, Op.move (Operand.tmp 1), some (12, false)⟩,
    ⟨some 14, Op.call { callee := Callee.builtin Builtin.len, args := #[Operand.tmp 13], argTypes := #[23] }, some (12, false)⟩,
    ⟨some 15, Op.binOp BinOp.gtr 3 (Operand.tmp 14) (Operand.const (Value.int IntKind.i64 30)) 3, some (12, false)⟩,
    ⟨some 16, Op.pick (Operand.tmp 12) (Operand.const (Value.bool true)) (Operand.tmp 15), none⟩,
    ⟨some 8, Op.assign (Operand.tmp 16), none⟩])
  (.cond (Operand.tmp 8) (.seq (.reg [⟨some 4, Op.assign (Operand.const (Value.slice none 0 0)), none⟩,
    ⟨some 5, Op.assign (Operand.const (Value.int IntKind.i64 3)), none⟩])
  .ret)
  (.seq (.reg [⟨some 18, Op.move (Operand.tmp 0), none⟩,
    ⟨some 19, Op.call { callee := Callee.value (Operand.func 15), args := #[Operand.tmp 18], argTypes := #[22] }, none⟩,
    ⟨some 17, Op.assign (Operand.tmp 19), none⟩])
  (.cond (Operand.tmp 17) (.seq (.reg [⟨some 4, Op.assign (Operand.const (Value.slice none 0 0)), none⟩,
    ⟨some 5, Op.assign (Operand.const (Value.int IntKind.i64 6)), none⟩])
  .ret)
  .skip)))))
  (.seq (.reg [⟨some 21, Op.move (Operand.tmp 0), none⟩,
    ⟨some 22, Op.move (Operand.tmp 1), none⟩,
    ⟨some 23, Op.call { callee := Callee.value (Operand.func 16), args := #[Operand.tmp 21, Operand.tmp 22], argTypes := #[22, 23] }, none⟩,
    ⟨some 20, Op.move (Operand.tmp 23), none⟩,
    ⟨some 24, Op.extract (Operand.tmp 20) 0, none⟩,
    ⟨some 25, Op.extract (Operand.tmp 20) 1, none⟩,
    ⟨some 6, Op.assign (Operand.tmp 24), none⟩,
    ⟨some 7, Op.assign (Operand.tmp 25), none⟩])
  (.seq (.seq (.reg [⟨some 26, Op.move (Operand.tmp 7), none⟩,
    ⟨some 27, Op.unOp UnOp.not 4 (Operand.tmp 26), none⟩])
  (.cond (Operand.tmp 27) (.seq (.reg [⟨some 4, Op.assign (Operand.const (Value.slice none 0 0)), none⟩,
    ⟨some 5, Op.assign (Operand.const (Value.int IntKind.i64 1)), none⟩])
  .ret)
  .skip))
  (.seq (.reg [⟨some 28, Op.move (Operand.tmp 6), none⟩,
    ⟨some 4, Op.assign (Operand.tmp 28), none⟩,
    ⟨some 5, Op.assign (Operand.const (Value.int IntKind.i64 0)), none⟩])
  .ret)))))
theorem low5 : Tryz.f5.body.bind low = some L5 := by kernel_rfl
theorem callm5 {k : Nat} {args : List AV} {H : List AO} {R : AV → List AO → Prop} (h : MX Tryz.prog k L5 (endM Tryz.prog k [ResultVar.tmp 4, ResultVar.tmp 5] R) (args ++ List.replicate (29 - args.length) (.v undef)) H) : AFn Tryz.prog 5 k args H R :=
  AFn_of_MW Tryz.func5 low5 (by decide) rfl rfl (MX_ok h)
theorem callp5 {args : List AV} {r : AV} (h : MX Tryz.prog 0 L5 (endM Tryz.prog 0 [ResultVar.tmp 4, ResultVar.tmp 5] (fun v Ho => v = r ∧ Ho = [])) (args ++ List.replicate (29 - args.length) (.v undef)) []) : APure Tryz.prog 5 args r := APure_of (callm5 h)
noncomputable def L6 : LC := (.seq (.reg [⟨some 2, Op.assign (Operand.const (Value.slice none 0 0)), none⟩])
  (.seq (.seq (.reg [⟨some 3, Op.move (Operand.tmp 0), none⟩,
    ⟨some 4, Op.binOp BinOp.eql 22 (Operand.tmp 3) (Operand.const (Value.slice none 0 0)) 22, none⟩])
  (.cond (Operand.tmp 4) (.seq (.reg [⟨some 2, Op.assign (Operand.const (Value.slice none 0 0)), none⟩])
  .ret)
  .skip))
  (.seq (.reg [⟨some 5, Op.buildSlice 22 0 #[], none⟩,
    ⟨some 6, Op.move (Operand.tmp 0), none⟩,
    ⟨some 7, Op.call { callee := Callee.builtin Builtin.append, args := #[Operand.tmp 5, Operand.tmp 6], argTypes := #[22, 22] }, none⟩,
    ⟨some 2, Op.assign (Operand.tmp 7), none⟩])
  .ret)))
theorem low6 : Tryz.f6.body.bind low = some L6 := by kernel_rfl
theorem callm6 {k : Nat} {args : List AV} {H : List AO} {R : AV → List AO → Prop} (h : MX Tryz.prog k L6 (endM Tryz.prog k [ResultVar.tmp 2] R) (args ++ List.replicate (8 - args.length) (.v undef)) H) : AFn Tryz.prog 6 k args H R :=
  AFn_of_MW Tryz.func6 low6 (by decide) rfl rfl (MX_ok h)
theorem callp6 {args : List AV} {r : AV} (h : MX Tryz.prog 0 L6 (endM Tryz.prog 0 [ResultVar.tmp 2] (fun v Ho => v = r ∧ Ho = [])) (args ++ List.replicate (8 - args.length) (.v undef)) []) : APure Tryz.prog 6 args r := APure_of (callm6 h)
noncomputable def L7 : LC := (.seq (.reg [⟨some 2, Op.assign (Operand.const (Value.slice none 0 0)), none⟩])
  (.seq (.seq (.reg [⟨some 3, Op.move (Operand.tmp 0), none⟩,
    ⟨some 4, Op.binOp BinOp.eql 23 (Operand.tmp 3) (Operand.const (Value.slice none 0 0)) 23, none⟩])
  (.cond (Operand.tmp 4) (.seq (.reg [⟨some 2, Op.assign (Operand.const (Value.slice none 0 0)), none⟩])
  .ret)
  .skip))
  (.seq (.reg [⟨some 5, Op.buildSlice 23 0 #[], none⟩,
    ⟨some 6, Op.move (Operand.tmp 0), none⟩,
    ⟨some 7, Op.call { callee := Callee.builtin Builtin.append, args := #[Operand.tmp 5, Operand.tmp 6], argTypes := #[23, 23] }, none⟩,
    ⟨some 2, Op.assign (Operand.tmp 7), none⟩])
  .ret)))
theorem low7 : Tryz.f7.body.bind low = some L7 := by kernel_rfl
theorem callm7 {k : Nat} {args : List AV} {H : List AO} {R : AV → List AO → Prop} (h : MX Tryz.prog k L7 (endM Tryz.prog k [ResultVar.tmp 2] R) (args ++ List.replicate (8 - args.length) (.v undef)) H) : AFn Tryz.prog 7 k args H R :=
  AFn_of_MW Tryz.func7 low7 (by decide) rfl rfl (MX_ok h)
theorem callp7 {args : List AV} {r : AV} (h : MX Tryz.prog 0 L7 (endM Tryz.prog 0 [ResultVar.tmp 2] (fun v Ho => v = r ∧ Ho = [])) (args ++ List.replicate (8 - args.length) (.v undef)) []) : APure Tryz.prog 7 args r := APure_of (callm7 h)
noncomputable def L8 : LC := (.seq (.reg [⟨some 4, Op.assign (Operand.const (Value.slice none 0 0)), none⟩,
    ⟨some 5, Op.assign (Operand.const (Value.int IntKind.i64 0)), none⟩])
  (.seq (.seq (.reg [⟨some 9, Op.move (Operand.tmp 0), none⟩,
    ⟨some 10, Op.call { callee := Callee.builtin Builtin.len, args := #[Operand.tmp 9], argTypes := #[22] }, none⟩,
    ⟨some 11, Op.binOp BinOp.gtr 3 (Operand.tmp 10) (Operand.const (Value.int IntKind.i64 60)) 3, none⟩,
    ⟨some 12, Op.move (Operand.tmp 11), none⟩,
    ⟨some 13, Op.move (Operand.tmp 1), some (12, false)⟩,
    ⟨some 14, Op.call { callee := Callee.builtin Builtin.len, args := #[Operand.tmp 13], argTypes := #[23] }, some (12, false)⟩,
    ⟨some 15, Op.binOp BinOp.gtr 3 (Operand.tmp 14) (Operand.const (Value.int IntKind.i64 30)) 3, some (12, false)⟩,
    ⟨some 16, Op.pick (Operand.tmp 12) (Operand.const (Value.bool true)) (Operand.tmp 15), none⟩])
  (.cond (Operand.tmp 16) (.seq (.reg [⟨some 4, Op.assign (Operand.const (Value.slice none 0 0)), none⟩,
    ⟨some 5, Op.assign (Operand.const (Value.int IntKind.i64 3)), none⟩])
  .ret)
  .skip))
  (.seq (.seq (.reg [⟨some 17, Op.move (Operand.tmp 0), none⟩,
    ⟨some 18, Op.call { callee := Callee.value (Operand.func 17), args := #[Operand.tmp 17], argTypes := #[22] }, none⟩,
    ⟨some 6, Op.assign (Operand.tmp 18), none⟩])
  (.seq (.reg [⟨some 19, Op.move (Operand.tmp 6), none⟩,
    ⟨some 20, Op.binOp BinOp.neq 25 (Operand.tmp 19) (Operand.const (Value.int IntKind.i64 0)) 25, none⟩])
  (.cond (Operand.tmp 20) (.seq (.reg [⟨some 21, Op.move (Operand.tmp 6), none⟩,
    ⟨some 4, Op.assign (Operand.const (Value.slice none 0 0)), none⟩,
    ⟨some 5, Op.assign (Operand.tmp 21), none⟩])
  .ret)
  .skip)))
  (.seq (.reg [⟨some 23, Op.move (Operand.tmp 0), none⟩,
    ⟨some 24, Op.move (Operand.tmp 1), none⟩,
    ⟨some 25, Op.call { callee := Callee.value (Operand.func 18), args := #[Operand.tmp 23, Operand.tmp 24], argTypes := #[22, 23] }, none⟩,
    ⟨some 22, Op.move (Operand.tmp 25), none⟩,
    ⟨some 26, Op.extract (Operand.tmp 22) 0, none⟩,
    ⟨some 27, Op.extract (Operand.tmp 22) 1, none⟩,
    ⟨some 7, Op.assign (Operand.tmp 26), none⟩,
    ⟨some 8, Op.assign (Operand.tmp 27), none⟩])
  (.seq (.seq (.reg [⟨some 28, Op.move (Operand.tmp 8), none⟩,
    ⟨some 29, Op.unOp UnOp.not 4 (Operand.tmp 28), none⟩])
  (.cond (Operand.tmp 29) (.seq (.reg [⟨some 4, Op.assign (Operand.const (Value.slice none 0 0)), none⟩,
    ⟨some 5, Op.assign (Operand.const (Value.int IntKind.i64 1)), none⟩])
  .ret)
  .skip))
  (.seq (.reg [⟨some 30, Op.move (Operand.tmp 7), none⟩,
    ⟨some 4, Op.assign (Operand.tmp 30), none⟩,
    ⟨some 5, Op.assign (Operand.const (Value.int IntKind.i64 0)), none⟩])
  .ret))))))
theorem low8 : Tryz.f8.body.bind low = some L8 := by kernel_rfl
theorem callm8 {k : Nat} {args : List AV} {H : List AO} {R : AV → List AO → Prop} (h : MX Tryz.prog k L8 (endM Tryz.prog k [ResultVar.tmp 4, ResultVar.tmp 5] R) (args ++ List.replicate (31 - args.length) (.v undef)) H) : AFn Tryz.prog 8 k args H R :=
  AFn_of_MW Tryz.func8 low8 (by decide) rfl rfl (MX_ok h)
theorem callp8 {args : List AV} {r : AV} (h : MX Tryz.prog 0 L8 (endM Tryz.prog 0 [ResultVar.tmp 4, ResultVar.tmp 5] (fun v Ho => v = r ∧ Ho = [])) (args ++ List.replicate (31 - args.length) (.v undef)) []) : APure Tryz.prog 8 args r := APure_of (callm8 h)
noncomputable def d9_6 : Array Oper := drawOps Tryz.f9 6
def l9_6 : List LOp := [⟨some 16, Op.move (Operand.tmp 0), none⟩,
    ⟨some 17, Op.move (Operand.tmp 5), none⟩,
    ⟨some 18, Op.indexAddr 22 (Operand.tmp 16) (Operand.tmp 17), none⟩,
    ⟨some 19, Op.load 3 (Operand.tmp 18), none⟩,
    ⟨some 20, Op.move (Operand.tmp 1), none⟩,
    ⟨some 21, Op.move (Operand.tmp 5), none⟩,
    ⟨some 22, Op.indexAddr 22 (Operand.tmp 20) (Operand.tmp 21), none⟩,
    ⟨some 23, Op.load 3 (Operand.tmp 22), none⟩,
    ⟨some 24, Op.binOp BinOp.neq 3 (Operand.tmp 19) (Operand.tmp 23) 3, none⟩]
theorem dl9_6 : lowOps d9_6 d9_6.toList = some l9_6 := by kernel_rfl
theorem dx9_6 : lexOK d9_6.toList = true := by kernel_rfl
noncomputable def L9_b0 : LC := (.seq (.reg [⟨some 14, Op.binOp BinOp.lss 3 (Operand.tmp 13) (Operand.tmp 12) 3, none⟩])
  (.seq (.cond (Operand.tmp 14) .skip
  (.exit 0))
  (.seq (.block 1 (.seq (.reg [⟨some 15, Op.move (Operand.tmp 13), none⟩,
    ⟨some 5, Op.assign (Operand.tmp 15), none⟩])
  (.seq (.draw 6 d9_6)
  (.cond (Operand.tmp 24) (.seq (.reg [⟨some 4, Op.assign (Operand.const (Value.bool false)), none⟩])
  .ret)
  .skip))))
  (.reg [⟨some 25, Op.binOp BinOp.add 3 (Operand.tmp 13) (Operand.const (Value.int IntKind.i64 1)) 3, none⟩,
    ⟨some 13, Op.move (Operand.tmp 25), none⟩]))))
noncomputable def L9 : LC := (.seq (.reg [⟨some 4, Op.assign (Operand.const (Value.bool false)), none⟩])
  (.seq (.seq (.reg [⟨some 6, Op.move (Operand.tmp 0), none⟩,
    ⟨some 7, Op.call { callee := Callee.builtin Builtin.len, args := #[Operand.tmp 6], argTypes := #[22] }, none⟩,
    ⟨some 8, Op.move (Operand.tmp 1), none⟩,
    ⟨some 9, Op.call { callee := Callee.builtin Builtin.len, args := #[Operand.tmp 8], argTypes := #[22] }, none⟩,
    ⟨some 10, Op.binOp BinOp.neq 3 (Operand.tmp 7) (Operand.tmp 9) 3, none⟩])
  (.cond (Operand.tmp 10) (.seq (.reg [⟨some 4, Op.assign (Operand.const (Value.bool false)), none⟩])
  .ret)
  .skip))
  (.seq (.seq (.reg [⟨some 11, Op.move (Operand.tmp 0), none⟩,
    ⟨some 12, Op.call { callee := Callee.builtin Builtin.len, args := #[Operand.tmp 11], argTypes := #[22] }, none⟩,
    ⟨some 13, Op.move (Operand.const (Value.int IntKind.i64 0)), none⟩])
  (.block 0 (.loop L9_b0)))
  (.seq (.reg [⟨some 4, Op.assign (Operand.const (Value.bool true)), none⟩])
  .ret))))
theorem low9 : Tryz.f9.body.bind low = some L9 := by kernel_rfl
theorem callm9 {k : Nat} {args : List AV} {H : List AO} {R : AV → List AO → Prop} (h : MX Tryz.prog k L9 (endM Tryz.prog k [ResultVar.tmp 4] R) (args ++ List.replicate (26 - args.length) (.v undef)) H) : AFn Tryz.prog 9 k args H R :=
  AFn_of_MW Tryz.func9 low9 (by decide) rfl rfl (MX_ok h)
theorem callp9 {args : List AV} {r : AV} (h : MX Tryz.prog 0 L9 (endM Tryz.prog 0 [ResultVar.tmp 4] (fun v Ho => v = r ∧ Ho = [])) (args ++ List.replicate (26 - args.length) (.v undef)) []) : APure Tryz.prog 9 args r := APure_of (callm9 h)
noncomputable def L15 : LC := (.seq (.reg [⟨some 2, Op.assign (Operand.const (Value.bool false)), none⟩])
  (.seq (.reg [⟨some 3, Op.move (Operand.tmp 0), none⟩,
    ⟨some 4, Op.call { callee := Callee.value (Operand.func 26), args := #[Operand.tmp 3, Operand.func 27], argTypes := #[22, 94] }, none⟩,
    ⟨some 2, Op.assign (Operand.tmp 4), none⟩])
  .ret))
theorem low15 : Tryz.f15.body.bind low = some L15 := by kernel_rfl
theorem callm15 {k : Nat} {args : List AV} {H : List AO} {R : AV → List AO → Prop} (h : MX Tryz.prog k L15 (endM Tryz.prog k [ResultVar.tmp 2] R) (args ++ List.replicate (5 - args.length) (.v undef)) H) : AFn Tryz.prog 15 k args H R :=
  AFn_of_MW Tryz.func15 low15 (by decide) rfl rfl (MX_ok h)
theorem callp15 {args : List AV} {r : AV} (h : MX Tryz.prog 0 L15 (endM Tryz.prog 0 [ResultVar.tmp 2] (fun v Ho => v = r ∧ Ho = [])) (args ++ List.replicate (5 - args.length) (.v undef)) []) : APure Tryz.prog 15 args r := APure_of (callm15 h)
noncomputable def L16_b0 : LC := (.seq (.seq (.reg [⟨some 37, Op.move (Operand.tmp 7), none⟩,
    ⟨some 38, Op.fieldAddr 31 (Operand.tmp 10) 1, none⟩,
    ⟨some 39, Op.load 3 (Operand.tmp 38), none⟩,
    ⟨some 40, Op.binOp BinOp.lss 3 (Operand.tmp 37) (Operand.tmp 39) 3, none⟩])
  (.cond (Operand.tmp 40) .skip
  (.exit 2)))
  (.seq (.block 3 (.seq (.seq (.reg [⟨some 43, Op.move (Operand.tmp 8), none⟩,
    ⟨some 44, Op.unOp UnOp.not 4 (Operand.tmp 43), none⟩])
  (.cond (Operand.tmp 44) (.reg [⟨some 45, Op.move (Operand.tmp 6), none⟩,
    ⟨some 46, Op.move (Operand.tmp 0), none⟩,
    ⟨some 47, Op.move (Operand.tmp 7), none⟩,
    ⟨some 48, Op.indexAddr 22 (Operand.tmp 46) (Operand.tmp 47), none⟩,
    ⟨some 49, Op.load 3 (Operand.tmp 48), none⟩,
    ⟨some 50, Op.buildSlice 22 1 #[(0, Operand.tmp 49)], none⟩,
    ⟨some 51, Op.call { callee := Callee.builtin Builtin.append, args := #[Operand.tmp 45, Operand.tmp 50], argTypes := #[22, 22] }, none⟩,
    ⟨some 6, Op.assign (Operand.tmp 51), none⟩])
  .skip))
  (.reg [⟨some 8, Op.assign (Operand.const (Value.bool false)), none⟩])))
  (.reg [⟨some 41, Op.move (Operand.tmp 7), none⟩,
    ⟨some 42, Op.binOp BinOp.add 3 (Operand.tmp 41) (Operand.const (Value.int IntKind.i64 1)) 3, none⟩,
    ⟨some 7, Op.assign (Operand.tmp 42), none⟩])))
noncomputable def d16_18 : Array Oper := drawOps Tryz.f16 18
def l16_18 : List LOp := [⟨some 77, Op.fieldAddr 31 (Operand.tmp 10) 0, none⟩,
    ⟨some 78, Op.load 3 (Operand.tmp 77), none⟩,
    ⟨some 79, Op.binOp BinOp.eql 3 (Operand.tmp 78) (Operand.const (Value.int IntKind.i64 1)) 3, none⟩,
    ⟨some 80, Op.move (Operand.tmp 79), none⟩,
    ⟨some 81, Op.fieldAddr 31 (Operand.tmp 10) 2, some (80, true)⟩,
    ⟨some 82, Op.load 3 (Operand.tmp 81), some (80, true)⟩,
    ⟨some 83, Op.move (Operand.tmp 0), some (80, true)⟩,
    ⟨some 84, Op.move (Operand.tmp 7), some (80, true)⟩,
    ⟨some 85, Op.indexAddr 22 (Operand.tmp 83) (Operand.tmp 84), some (80, true)⟩,
    ⟨some 86, Op.load 3 (Operand.tmp 85), some (80, true)⟩,
    ⟨some 87, Op.binOp BinOp.xor 3 (Operand.tmp 86) (Operand.const (Value.int IntKind.i64 1)) 3, some (80, true)⟩,
    ⟨some 88, Op.binOp BinOp.eql 3 (Operand.tmp 82) (Operand.tmp 87) 3, some (80, true)⟩,
    ⟨some 89, Op.pick (Operand.tmp 80) (Operand.tmp 88) (Operand.const (Value.bool false)), none⟩,
    ⟨some 76, Op.assign (Operand.tmp 89), none⟩]
theorem dl16_18 : lowOps d16_18 d16_18.toList = some l16_18 := by kernel_rfl
theorem dx16_18 : lexOK d16_18.toList = true := by kernel_rfl
noncomputable def L16_b1 : LC := (.seq (.reg [⟨some 14, Op.binOp BinOp.lss 3 (Operand.tmp 13) (Operand.tmp 12) 3, none⟩])
  (.seq (.cond (Operand.tmp 14) .skip
  (.exit 0))
  (.seq (.block 1 (.seq (.reg [⟨some 15, Op.indexAddr 23 (Operand.tmp 11) (Operand.tmp 13), none⟩,
    ⟨some 16, Op.load 31 (Operand.tmp 15), none⟩,
    ⟨some 10, Op.alloc 31, none⟩,
    ⟨none, Op.store 31 (Operand.tmp 10) (Operand.tmp 16), none⟩])
  (.seq (.seq (.reg [⟨some 17, Op.fieldAddr 31 (Operand.tmp 10) 1, none⟩,
    ⟨some 18, Op.load 3 (Operand.tmp 17), none⟩,
    ⟨some 19, Op.move (Operand.tmp 7), none⟩,
    ⟨some 20, Op.binOp BinOp.lss 3 (Operand.tmp 18) (Operand.tmp 19) 3, none⟩,
    ⟨some 21, Op.move (Operand.tmp 20), none⟩,
    ⟨some 22, Op.fieldAddr 31 (Operand.tmp 10) 1, some (21, false)⟩,
    ⟨some 23, Op.load 3 (Operand.tmp 22), some (21, false)⟩,
    ⟨some 24, Op.move (Operand.tmp 0), some (21, false)⟩,
    ⟨some 25, Op.call { callee := Callee.builtin Builtin.len, args := #[Operand.tmp 24], argTypes := #[22] }, some (21, false)⟩,
    ⟨some 26, Op.binOp BinOp.gtr 3 (Operand.tmp 23) (Operand.tmp 25) 3, some (21, false)⟩,
    ⟨some 27, Op.pick (Operand.tmp 21) (Operand.const (Value.bool true)) (Operand.tmp 26), none⟩,
    ⟨some 28, Op.move (Operand.tmp 27), none⟩,
    ⟨some 29, Op.fieldAddr 31 (Operand.tmp 10) 1, some (28, false)⟩,
    ⟨some 30, Op.load 3 (Operand.tmp 29), some (28, false)⟩,
    ⟨some 31, Op.move (Operand.tmp 7), some (28, false)⟩,
    ⟨some 32, Op.binOp BinOp.eql 3 (Operand.tmp 30) (Operand.tmp 31) 3, some (28, false)⟩,
    ⟨some 33, Op.move (Operand.tmp 32), some (28, false)⟩,
    ⟨some 34, Op.move (Operand.tmp 8), some (33, true)⟩,
    ⟨some 35, Op.pick (Operand.tmp 33) (Operand.tmp 34) (Operand.const (Value.bool false)), some (28, false)⟩,
    ⟨some 36, Op.pick (Operand.tmp 28) (Operand.const (Value.bool true)) (Operand.tmp 35), none⟩])
  (.cond (Operand.tmp 36) (.seq (.reg [⟨some 4, Op.assign (Operand.const (Value.slice none 0 0)), none⟩,
    ⟨some 5, Op.assign (Operand.const (Value.bool false)), none⟩])
  .ret)
  .skip))
  (.seq (.block 2 (.loop L16_b0))
  (.block 4 (.seq (.reg [⟨some 53, Op.fieldAddr 31 (Operand.tmp 10) 0, none⟩,
    ⟨some 54, Op.load 3 (Operand.tmp 53), none⟩,
    ⟨some 55, Op.binOp BinOp.eql 3 (Operand.tmp 54) (Operand.const (Value.int IntKind.i64 2)) 3, none⟩,
    ⟨some 56, Op.move (Operand.tmp 55), none⟩,
    ⟨some 57, Op.fieldAddr 31 (Operand.tmp 10) 2, some (56, true)⟩,
    ⟨some 58, Op.load 3 (Operand.tmp 57), some (56, true)⟩,
    ⟨some 59, Op.binOp BinOp.geq 3 (Operand.tmp 58) (Operand.const (Value.int IntKind.i64 0)) 3, some (56, true)⟩,
    ⟨some 60, Op.pick (Operand.tmp 56) (Operand.tmp 59) (Operand.const (Value.bool false)), none⟩,
    ⟨some 61, Op.move (Operand.tmp 60), none⟩,
    ⟨some 62, Op.fieldAddr 31 (Operand.tmp 10) 2, some (61, true)⟩,
    ⟨some 63, Op.load 3 (Operand.tmp 62), some (61, true)⟩,
    ⟨some 64, Op.binOp BinOp.leq 3 (Operand.tmp 63) (Operand.const (Value.int IntKind.i64 3)) 3, some (61, true)⟩,
    ⟨some 65, Op.pick (Operand.tmp 61) (Operand.tmp 64) (Operand.const (Value.bool false)), none⟩,
    ⟨some 52, Op.assign (Operand.tmp 65), none⟩])
  (.cond (Operand.tmp 52) (.reg [⟨some 66, Op.move (Operand.tmp 6), none⟩,
    ⟨some 67, Op.fieldAddr 31 (Operand.tmp 10) 2, none⟩,
    ⟨some 68, Op.load 3 (Operand.tmp 67), none⟩,
    ⟨some 69, Op.buildSlice 22 1 #[(0, Operand.tmp 68)], none⟩,
    ⟨some 70, Op.call { callee := Callee.builtin Builtin.append, args := #[Operand.tmp 66, Operand.tmp 69], argTypes := #[22, 22] }, none⟩,
    ⟨some 6, Op.assign (Operand.tmp 70), none⟩])
  (.seq (.reg [⟨some 72, Op.move (Operand.tmp 7), none⟩,
    ⟨some 73, Op.move (Operand.tmp 0), none⟩,
    ⟨some 74, Op.call { callee := Callee.builtin Builtin.len, args := #[Operand.tmp 73], argTypes := #[22] }, none⟩,
    ⟨some 75, Op.binOp BinOp.eql 3 (Operand.tmp 72) (Operand.tmp 74) 3, none⟩,
    ⟨some 71, Op.assign (Operand.tmp 75), none⟩])
  (.cond (Operand.tmp 71) (.seq (.reg [⟨some 4, Op.assign (Operand.const (Value.slice none 0 0)), none⟩,
    ⟨some 5, Op.assign (Operand.const (Value.bool false)), none⟩])
  .ret)
  (.seq (.draw 18 d16_18)
  (.cond (Operand.tmp 76) (.reg [⟨some 90, Op.move (Operand.tmp 6), none⟩,
    ⟨some 91, Op.fieldAddr 31 (Operand.tmp 10) 2, none⟩,
    ⟨some 92, Op.load 3 (Operand.tmp 91), none⟩,
    ⟨some 93, Op.buildSlice 22 1 #[(0, Operand.tmp 92)], none⟩,
    ⟨some 94, Op.call { callee := Callee.builtin Builtin.append, args := #[Operand.tmp 90, Operand.tmp 93], argTypes := #[22, 22] }, none⟩,
    ⟨some 6, Op.assign (Operand.tmp 94), none⟩,
    ⟨some 8, Op.assign (Operand.const (Value.bool true)), none⟩])
  (.seq (.reg [⟨some 96, Op.fieldAddr 31 (Operand.tmp 10) 0, none⟩,
    ⟨some 97, Op.load 3 (Operand.tmp 96), none⟩,
    ⟨some 98, Op.binOp BinOp.eql 3 (Operand.tmp 97) (Operand.const (Value.int IntKind.i64 3)) 3, none⟩,
    ⟨some 99, Op.move (Operand.tmp 98), none⟩,
    ⟨some 100, Op.fieldAddr 31 (Operand.tmp 10) 2, some (99, true)⟩,
    ⟨some 101, Op.load 3 (Operand.tmp 100), some (99, true)⟩,
    ⟨some 102, Op.binOp BinOp.eql 3 (Operand.tmp 101) (Operand.const (Value.int IntKind.i64 0)) 3, some (99, true)⟩,
    ⟨some 103, Op.pick (Operand.tmp 99) (Operand.tmp 102) (Operand.const (Value.bool false)), none⟩,
    ⟨some 95, Op.assign (Operand.tmp 103), none⟩])
  (.cond (Operand.tmp 95) (.reg [⟨some 8, Op.assign (Operand.const (Value.bool true)), none⟩])
  (.seq (.reg [⟨some 4, Op.assign (Operand.const (Value.slice none 0 0)), none⟩,
    ⟨some 5, Op.assign (Operand.const (Value.bool false)), none⟩])
  .ret))))))))))))))
  (.reg [⟨some 104, Op.binOp BinOp.add 3 (Operand.tmp 13) (Operand.const (Value.int IntKind.i64 1)) 3, none⟩,
    ⟨some 13, Op.move (Operand.tmp 104), none⟩]))))
noncomputable def L16_b2 : LC := (.seq (.seq (.reg [⟨some 105, Op.move (Operand.tmp 7), none⟩,
    ⟨some 106, Op.move (Operand.tmp 0), none⟩,
    ⟨some 107, Op.call { callee := Callee.builtin Builtin.len, args := #[Operand.tmp 106], argTypes := #[22] }, none⟩,
    ⟨some 108, Op.binOp BinOp.lss 3 (Operand.tmp 105) (Operand.tmp 107) 3, none⟩])
  (.cond (Operand.tmp 108) .skip
  (.exit 5)))
  (.seq (.block 6 (.seq (.seq (.reg [⟨some 111, Op.move (Operand.tmp 8), none⟩,
    ⟨some 112, Op.unOp UnOp.not 4 (Operand.tmp 111), none⟩])
  (.cond (Operand.tmp 112) (.reg [⟨some 113, Op.move (Operand.tmp 6), none⟩,
    ⟨some 114, Op.move (Operand.tmp 0), none⟩,
    ⟨some 115, Op.move (Operand.tmp 7), none⟩,
    ⟨some 116, Op.indexAddr 22 (Operand.tmp 114) (Operand.tmp 115), none⟩,
    ⟨some 117, Op.load 3 (Operand.tmp 116), none⟩,
    ⟨some 118, Op.buildSlice 22 1 #[(0, Operand.tmp 117)], none⟩,
    ⟨some 119, Op.call { callee := Callee.builtin Builtin.append, args := #[Operand.tmp 113, Operand.tmp 118], argTypes := #[22, 22] }, none⟩,
    ⟨some 6, Op.assign (Operand.tmp 119), none⟩])
  .skip))
  (.reg [⟨some 8, Op.assign (Operand.const (Value.bool false)), none⟩])))
  (.reg [⟨some 109, Op.move (Operand.tmp 7), none⟩,
    ⟨some 110, Op.binOp BinOp.add 3 (Operand.tmp 109) (Operand.const (Value.int IntKind.i64 1)) 3, none⟩,
    ⟨some 7, Op.assign (Operand.tmp 110), none⟩])))
noncomputable def L16 : LC := (.seq (.reg [⟨some 4, Op.assign (Operand.const (Value.slice none 0 0)), none⟩,
    ⟨some 5, Op.assign (Operand.const (Value.bool false)), none⟩])
  (.seq (.reg [⟨some 6, Op.assign (Operand.const (Value.slice none 0 0)), none⟩])
  (.seq (.reg [⟨some 7, Op.assign (Operand.const (Value.int IntKind.i64 0)), none⟩,
    ⟨some 8, Op.assign (Operand.const (Value.bool false)), none⟩])
  (.seq (.seq (.reg [⟨some 11, Op.move (Operand.tmp 1), none⟩,
    ⟨some 12, Op.call { callee := Callee.builtin Builtin.len, args := #[Operand.tmp 11], argTypes := #[23] }, none⟩,
    ⟨some 13, Op.move (Operand.const (Value.int IntKind.i64 0)), none⟩])
  (.block 0 (.loop L16_b1)))
  (.seq (.block 5 (.loop L16_b2))
  (.seq (.reg [⟨some 120, Op.move (Operand.tmp 6), none⟩,
    ⟨some 4, Op.assign (Operand.tmp 120), none⟩,
    ⟨some 5, Op.assign (Operand.const (Value.bool true)), none⟩])
  .ret))))))
theorem low16 : Tryz.f16.body.bind low = some L16 := by kernel_rfl
theorem callm16 {k : Nat} {args : List AV} {H : List AO} {R : AV → List AO → Prop} (h : MX Tryz.prog k L16 (endM Tryz.prog k [ResultVar.tmp 4, ResultVar.tmp 5] R) (args ++ List.replicate (121 - args.length) (.v undef)) H) : AFn Tryz.prog 16 k args H R :=
  AFn_of_MW Tryz.func16 low16 (by decide) rfl rfl (MX_ok h)
theorem callp16 {args : List AV} {r : AV} (h : MX Tryz.prog 0 L16 (endM Tryz.prog 0 [ResultVar.tmp 4, ResultVar.tmp 5] (fun v Ho => v = r ∧ Ho = [])) (args ++ List.replicate (121 - args.length) (.v undef)) []) : APure Tryz.prog 16 args r := APure_of (callm16 h)
noncomputable def L17_b0 : LC := (.seq (.seq (.reg [⟨some 7, Op.move (Operand.tmp 3), none⟩,
    ⟨some 8, Op.move (Operand.tmp 0), none⟩,
    ⟨some 9, Op.call { callee := Callee.builtin Builtin.len, args := #[Operand.tmp 8], argTypes := #[22] }, none⟩,
    ⟨some 10, Op.binOp BinOp.lss 3 (Operand.tmp 7) (Operand.tmp 9) 3, none⟩])
  (.cond (Operand.tmp 10) .skip
  (.exit 0)))
  (.seq (.block 1 (.seq (.reg [⟨some 13, Op.move (Operand.tmp 0), none⟩,
    ⟨some 14, Op.move (Operand.tmp 3), none⟩,
    ⟨some 15, Op.indexAddr 22 (Operand.tmp 13) (Operand.tmp 14), none⟩,
    ⟨some 16, Op.load 3 (Operand.tmp 15), none⟩,
    ⟨some 17, Op.binOp BinOp.lss 3 (Operand.tmp 16) (Operand.const (Value.int IntKind.i64 0)) 3, none⟩,
    ⟨some 18, Op.move (Operand.tmp 17), none⟩,
    ⟨some 19, Op.move (Operand.tmp 0), some (18, false)⟩,
    ⟨some 20, Op.move (Operand.tmp 3), some (18, false)⟩,
    ⟨some 21, Op.indexAddr 22 (Operand.tmp 19) (Operand.tmp 20), some (18, false)⟩,
    ⟨some 22, Op.load 3 (Operand.tmp 21), some (18, false)⟩,
    ⟨some 23, Op.binOp BinOp.geq 3 (Operand.tmp 22) (Operand.const (Value.int IntKind.i64 4)) 3, some (18, false)⟩,
    ⟨some 24, Op.pick (Operand.tmp 18) (Operand.const (Value.bool true)) (Operand.tmp 23), none⟩])
  (.cond (Operand.tmp 24) (.seq (.reg [⟨some 2, Op.assign (Operand.const (Value.int IntKind.i64 6)), none⟩])
  .ret)
  .skip)))
  (.reg [⟨some 11, Op.move (Operand.tmp 3), none⟩,
    ⟨some 12, Op.binOp BinOp.add 3 (Operand.tmp 11) (Operand.const (Value.int IntKind.i64 1)) 3, none⟩,
    ⟨some 3, Op.assign (Operand.tmp 12), none⟩])))
noncomputable def L17 : LC := (.seq (.reg [⟨some 2, Op.assign (Operand.const (Value.int IntKind.i64 0)), none⟩])
  (.seq (.seq (.reg [⟨some 4, Op.move (Operand.tmp 0), none⟩,
    ⟨some 5, Op.call { callee := Callee.builtin Builtin.len, args := #[Operand.tmp 4], argTypes := #[22] }, none⟩,
    ⟨some 6, Op.binOp BinOp.gtr 3 (Operand.tmp 5) (Operand.const (Value.int IntKind.i64 60)) 3, none⟩])
  (.cond (Operand.tmp 6) (.seq (.reg [⟨some 2, Op.assign (Operand.const (Value.int IntKind.i64 3)), none⟩])
  .ret)
  .skip))
  (.seq (.seq (.reg [⟨some 3, Op.assign (Operand.const (Value.int IntKind.i64 0)), none⟩])
  (.block 0 (.loop L17_b0)))
  (.seq (.reg [⟨some 2, Op.assign (Operand.const (Value.int IntKind.i64 0)), none⟩])
  .ret))))
theorem low17 : Tryz.f17.body.bind low = some L17 := by kernel_rfl
theorem callm17 {k : Nat} {args : List AV} {H : List AO} {R : AV → List AO → Prop} (h : MX Tryz.prog k L17 (endM Tryz.prog k [ResultVar.tmp 2] R) (args ++ List.replicate (25 - args.length) (.v undef)) H) : AFn Tryz.prog 17 k args H R :=
  AFn_of_MW Tryz.func17 low17 (by decide) rfl rfl (MX_ok h)
theorem callp17 {args : List AV} {r : AV} (h : MX Tryz.prog 0 L17 (endM Tryz.prog 0 [ResultVar.tmp 2] (fun v Ho => v = r ∧ Ho = [])) (args ++ List.replicate (25 - args.length) (.v undef)) []) : APure Tryz.prog 17 args r := APure_of (callm17 h)
noncomputable def d18_7 : Array Oper := drawOps Tryz.f18 7
def l18_7 : List LOp := [⟨some 20, Op.move (Operand.tmp 0), none⟩,
    ⟨some 21, Op.move (Operand.tmp 1), none⟩,
    ⟨some 22, Op.move (Operand.tmp 8), none⟩,
    ⟨some 23, Op.slice 23 (Operand.tmp 21) none (some (Operand.tmp 22)) none, none⟩,
    ⟨some 24, Op.load 31 (Operand.tmp 9), none⟩,
    ⟨some 25, Op.call { callee := Callee.value (Operand.func 28), args := #[Operand.tmp 20, Operand.tmp 23, Operand.tmp 24], argTypes := #[22, 23, 31] }, none⟩,
    ⟨some 26, Op.unOp UnOp.not 4 (Operand.tmp 25), none⟩]
theorem dl18_7 : lowOps d18_7 d18_7.toList = some l18_7 := by kernel_rfl
theorem dx18_7 : lexOK d18_7.toList = true := by kernel_rfl
noncomputable def L18_b0 : LC := (.seq (.seq (.reg [⟨some 10, Op.move (Operand.tmp 8), none⟩,
    ⟨some 11, Op.move (Operand.tmp 1), none⟩,
    ⟨some 12, Op.call { callee := Callee.builtin Builtin.len, args := #[Operand.tmp 11], argTypes := #[23] }, none⟩,
    ⟨some 13, Op.binOp BinOp.lss 3 (Operand.tmp 10) (Operand.tmp 12) 3, none⟩])
  (.cond (Operand.tmp 13) .skip
  (.exit 0)))
  (.seq (.block 1 (.seq (.reg [⟨some 16, Op.move (Operand.tmp 1), none⟩,
    ⟨some 17, Op.move (Operand.tmp 8), none⟩,
    ⟨some 18, Op.indexAddr 23 (Operand.tmp 16) (Operand.tmp 17), none⟩,
    ⟨some 19, Op.load 31 (Operand.tmp 18), none⟩,
    ⟨some 9, Op.alloc 31, none⟩,
    ⟨none, Op.store 31 (Operand.tmp 9) (Operand.tmp 19), none⟩])
  (.seq (.seq (.draw 7 d18_7)
  (.cond (Operand.tmp 26) (.seq (.reg [⟨some 4, Op.assign (Operand.const (Value.slice none 0 0)), none⟩,
    ⟨some 5, Op.assign (Operand.const (Value.bool false)), none⟩])
  .ret)
  .skip))
  (.seq (.reg [⟨some 27, Op.move (Operand.tmp 6), none⟩,
    ⟨some 28, Op.move (Operand.tmp 0), none⟩,
    ⟨some 29, Op.move (Operand.tmp 7), none⟩,
    ⟨some 30, Op.fieldAddr 31 (Operand.tmp 9) 1, none⟩,
    ⟨some 31, Op.load 3 (Operand.tmp 30), none⟩,
    ⟨some 32, Op.slice 22 (Operand.tmp 28) (some (Operand.tmp 29)) (some (Operand.tmp 31)) none, none⟩,
    ⟨some 33, Op.call { callee := Callee.builtin Builtin.append, args := #[Operand.tmp 27, Operand.tmp 32], argTypes := #[22, 22] }, none⟩,
    ⟨some 6, Op.assign (Operand.tmp 33), none⟩])
  (.seq (.reg [⟨some 34, Op.fieldAddr 31 (Operand.tmp 9) 1, none⟩,
    ⟨some 35, Op.load 3 (Operand.tmp 34), none⟩,
    ⟨some 7, Op.assign (Operand.tmp 35), none⟩])
  (.seq (.seq (.reg [⟨some 36, Op.fieldAddr 31 (Operand.tmp 9) 0, none⟩,
    ⟨some 37, Op.load 3 (Operand.tmp 36), none⟩,
    ⟨some 38, Op.binOp BinOp.neq 3 (Operand.tmp 37) (Operand.const (Value.int IntKind.i64 3)) 3, none⟩])
  (.cond (Operand.tmp 38) (.reg [⟨some 39, Op.move (Operand.tmp 6), none⟩,
    ⟨some 40, Op.fieldAddr 31 (Operand.tmp 9) 2, none⟩,
    ⟨some 41, Op.load 3 (Operand.tmp 40), none⟩,
    ⟨some 42, Op.buildSlice 22 1 #[(0, Operand.tmp 41)], none⟩,
    ⟨some 43, Op.call { callee := Callee.builtin Builtin.append, args := #[Operand.tmp 39, Operand.tmp 42], argTypes := #[22, 22] }, none⟩,
    ⟨some 6, Op.assign (Operand.tmp 43), none⟩])
  .skip))
  (.seq (.reg [⟨some 44, Op.fieldAddr 31 (Operand.tmp 9) 0, none⟩,
    ⟨some 45, Op.load 3 (Operand.tmp 44), none⟩,
    ⟨some 46, Op.binOp BinOp.neq 3 (Operand.tmp 45) (Operand.const (Value.int IntKind.i64 2)) 3, none⟩])
  (.cond (Operand.tmp 46) (.reg [⟨some 47, Op.move (Operand.tmp 7), none⟩,
    ⟨some 48, Op.binOp BinOp.add 3 (Operand.tmp 47) (Operand.const (Value.int IntKind.i64 1)) 3, none⟩,
    ⟨some 7, Op.assign (Operand.tmp 48), none⟩])
  .skip))))))))
  (.reg [⟨some 14, Op.move (Operand.tmp 8), none⟩,
    ⟨some 15, Op.binOp BinOp.add 3 (Operand.tmp 14) (Operand.const (Value.int IntKind.i64 1)) 3, none⟩,
    ⟨some 8, Op.assign (Operand.tmp 15), none⟩])))
noncomputable def L18 : LC := (.seq (.reg [⟨some 4, Op.assign (Operand.const (Value.slice none 0 0)), none⟩,
    ⟨some 5, Op.assign (Operand.const (Value.bool false)), none⟩])
  (.seq (.reg [⟨some 6, Op.assign (Operand.const (Value.slice none 0 0)), none⟩])
  (.seq (.reg [⟨some 7, Op.assign (Operand.const (Value.int IntKind.i64 0)), none⟩])
  (.seq (.seq (.reg [⟨some 8, Op.assign (Operand.const (Value.int IntKind.i64 0)), none⟩])
  (.block 0 (.loop L18_b0)))
  (.seq (.reg [⟨some 49, Op.move (Operand.tmp 6), none⟩,
    ⟨some 50, Op.move (Operand.tmp 0), none⟩,
    ⟨some 51, Op.move (Operand.tmp 7), none⟩,
    ⟨some 52, Op.slice 22 (Operand.tmp 50) (some (Operand.tmp 51)) none none, none⟩,
    ⟨some 53, Op.call { callee := Callee.builtin Builtin.append, args := #[Operand.tmp 49, Operand.tmp 52], argTypes := #[22, 22] }, none⟩,
    ⟨some 4, Op.assign (Operand.tmp 53), none⟩,
    ⟨some 5, Op.assign (Operand.const (Value.bool true)), none⟩])
  .ret)))))
theorem low18 : Tryz.f18.body.bind low = some L18 := by kernel_rfl
theorem callm18 {k : Nat} {args : List AV} {H : List AO} {R : AV → List AO → Prop} (h : MX Tryz.prog k L18 (endM Tryz.prog k [ResultVar.tmp 4, ResultVar.tmp 5] R) (args ++ List.replicate (54 - args.length) (.v undef)) H) : AFn Tryz.prog 18 k args H R :=
  AFn_of_MW Tryz.func18 low18 (by decide) rfl rfl (MX_ok h)
theorem callp18 {args : List AV} {r : AV} (h : MX Tryz.prog 0 L18 (endM Tryz.prog 0 [ResultVar.tmp 4, ResultVar.tmp 5] (fun v Ho => v = r ∧ Ho = [])) (args ++ List.replicate (54 - args.length) (.v undef)) []) : APure Tryz.prog 18 args r := APure_of (callm18 h)
noncomputable def L26 : LC := (.seq (.reg [⟨some 4, Op.assign (Operand.const (Value.bool false)), none⟩])
  (.seq (.reg [⟨some 5, Op.move (Operand.tmp 0), none⟩,
    ⟨some 6, Op.move (Operand.tmp 1), none⟩,
    ⟨some 7, Op.call { callee := Callee.value (Operand.func 53), args := #[Operand.tmp 5, Operand.tmp 6], argTypes := #[22, 94] }, none⟩,
    ⟨some 8, Op.binOp BinOp.geq 3 (Operand.tmp 7) (Operand.const (Value.int IntKind.i64 0)) 3, none⟩,
    ⟨some 4, Op.assign (Operand.tmp 8), none⟩])
  .ret))
theorem low26 : Tryz.f26.body.bind low = some L26 := by kernel_rfl
theorem callm26 {k : Nat} {args : List AV} {H : List AO} {R : AV → List AO → Prop} (h : MX Tryz.prog k L26 (endM Tryz.prog k [ResultVar.tmp 4] R) (args ++ List.replicate (9 - args.length) (.v undef)) H) : AFn Tryz.prog 26 k args H R :=
  AFn_of_MW Tryz.func26 low26 (by decide) rfl rfl (MX_ok h)
theorem callp26 {args : List AV} {r : AV} (h : MX Tryz.prog 0 L26 (endM Tryz.prog 0 [ResultVar.tmp 4] (fun v Ho => v = r ∧ Ho = [])) (args ++ List.replicate (9 - args.length) (.v undef)) []) : APure Tryz.prog 26 args r := APure_of (callm26 h)
noncomputable def L27 : LC := (.seq (.reg [⟨some 2, Op.assign (Operand.const (Value.bool false)), none⟩])
  (.seq (.reg [⟨some 3, Op.move (Operand.tmp 0), none⟩,
    ⟨some 4, Op.binOp BinOp.lss 3 (Operand.tmp 3) (Operand.const (Value.int IntKind.i64 0)) 3, none⟩,
    ⟨some 5, Op.move (Operand.tmp 4), none⟩,
    ⟨some 6, Op.move (Operand.tmp 0), some (5, false)⟩,
    ⟨some 7, Op.binOp BinOp.gtr 3 (Operand.tmp 6) (Operand.const (Value.int IntKind.i64 3)) 3, some (5, false)⟩,
    ⟨some 8, Op.pick (Operand.tmp 5) (Operand.const (Value.bool true)) (Operand.tmp 7), none⟩,
    ⟨some 2, Op.assign (Operand.tmp 8), none⟩])
  .ret))
theorem low27 : Tryz.f27.body.bind low = some L27 := by kernel_rfl
theorem callm27 {k : Nat} {args : List AV} {H : List AO} {R : AV → List AO → Prop} (h : MX Tryz.prog k L27 (endM Tryz.prog k [ResultVar.tmp 2] R) (args ++ List.replicate (9 - args.length) (.v undef)) H) : AFn Tryz.prog 27 k args H R :=
  AFn_of_MW Tryz.func27 low27 (by decide) rfl rfl (MX_ok h)
theorem callp27 {args : List AV} {r : AV} (h : MX Tryz.prog 0 L27 (endM Tryz.prog 0 [ResultVar.tmp 2] (fun v Ho => v = r ∧ Ho = [])) (args ++ List.replicate (9 - args.length) (.v undef)) []) : APure Tryz.prog 27 args r := APure_of (callm27 h)
noncomputable def d28_4 : Array Oper := drawOps Tryz.f28 4
def l28_4 : List LOp := [⟨some 32, Op.move (Operand.tmp 7), none⟩,
    ⟨some 33, Op.binOp BinOp.gtr 3 (Operand.tmp 32) (Operand.const (Value.int IntKind.i64 0)) 3, none⟩,
    ⟨some 34, Op.move (Operand.tmp 33), none⟩,
    ⟨some 35, Op.move (Operand.tmp 1), some (34, true)⟩,
    ⟨some 36, Op.move (Operand.tmp 7), some (34, true)⟩,
    ⟨some 37, Op.binOp BinOp.sub 3 (Operand.tmp 36) (Operand.const (Value.int IntKind.i64 1)) 3, some (34, true)⟩,
    ⟨some 38, Op.indexAddr 23 (Operand.tmp 35) (Operand.tmp 37), some (34, true)⟩,
    ⟨some 39, Op.fieldAddr 31 (Operand.tmp 38) 1, some (34, true)⟩,
    ⟨some 40, Op.load 3 (Operand.tmp 39), some (34, true)⟩,
    ⟨some 41, Op.fieldAddr 31 (Operand.tmp 5) 1, some (34, true)⟩,
    ⟨some 42, Op.load 3 (Operand.tmp 41), some (34, true)⟩,
    ⟨some 43, Op.binOp BinOp.gtr 3 (Operand.tmp 40) (Operand.tmp 42) 3, some (34, true)⟩,
    ⟨some 44, Op.move (Operand.tmp 43), some (34, true)⟩,
    ⟨some 45, Op.move (Operand.tmp 1), some (44, false)⟩,
    ⟨some 46, Op.move (Operand.tmp 7), some (44, false)⟩,
    ⟨some 47, Op.binOp BinOp.sub 3 (Operand.tmp 46) (Operand.const (Value.int IntKind.i64 1)) 3, some (44, false)⟩,
    ⟨some 48, Op.indexAddr 23 (Operand.tmp 45) (Operand.tmp 47), some (44, false)⟩,
    ⟨some 49, Op.fieldAddr 31 (Operand.tmp 48) 1, some (44, false)⟩,
    ⟨some 50, Op.load 3 (Operand.tmp 49), some (44, false)⟩,
    ⟨some 51, Op.fieldAddr 31 (Operand.tmp 5) 1, some (44, false)⟩,
    ⟨some 52, Op.load 3 (Operand.tmp 51), some (44, false)⟩,
    ⟨some 53, Op.binOp BinOp.eql 3 (Operand.tmp 50) (Operand.tmp 52) 3, some (44, false)⟩,
    ⟨some 54, Op.move (Operand.tmp 53), some (44, false)⟩,
    ⟨some 55, Op.move (Operand.tmp 1), some (54, true)⟩,
    ⟨some 56, Op.move (Operand.tmp 7), some (54, true)⟩,
    ⟨some 57, Op.binOp BinOp.sub 3 (Operand.tmp 56) (Operand.const (Value.int IntKind.i64 1)) 3, some (54, true)⟩,
    ⟨some 58, Op.indexAddr 23 (Operand.tmp 55) (Operand.tmp 57), some (54, true)⟩,
    ⟨some 59, Op.fieldAddr 31 (Operand.tmp 58) 0, some (54, true)⟩,
    ⟨some 60, Op.load 3 (Operand.tmp 59), some (54, true)⟩,
    ⟨some 61, Op.binOp BinOp.neq 3 (Operand.tmp 60) (Operand.const (Value.int IntKind.i64 2)) 3, some (54, true)⟩,
    ⟨some 62, Op.pick (Operand.tmp 54) (Operand.tmp 61) (Operand.const (Value.bool false)), some (44, false)⟩,
    ⟨some 63, Op.pick (Operand.tmp 44) (Operand.const (Value.bool true)) (Operand.tmp 62), some (34, true)⟩,
    ⟨some 64, Op.pick (Operand.tmp 34) (Operand.tmp 63) (Operand.const (Value.bool false)), none⟩]
theorem dl28_4 : lowOps d28_4 d28_4.toList = some l28_4 := by kernel_rfl
theorem dx28_4 : lexOK d28_4.toList = true := by kernel_rfl
noncomputable def d28_8 : Array Oper := drawOps Tryz.f28 8
def l28_8 : List LOp := [⟨some 69, Op.fieldAddr 31 (Operand.tmp 5) 2, none⟩,
    ⟨some 70, Op.load 3 (Operand.tmp 69), none⟩,
    ⟨some 71, Op.move (Operand.tmp 0), none⟩,
    ⟨some 72, Op.fieldAddr 31 (Operand.tmp 5) 1, none⟩,
    ⟨some 73, Op.load 3 (Operand.tmp 72), none⟩,
    ⟨some 74, Op.indexAddr 22 (Operand.tmp 71) (Operand.tmp 73), none⟩,
    ⟨some 75, Op.load 3 (Operand.tmp 74), none⟩,
    ⟨some 76, Op.binOp BinOp.xor 3 (Operand.tmp 75) (Operand.const (Value.int IntKind.i64 1)) 3, none⟩,
    ⟨some 77, Op.binOp BinOp.eql 3 (Operand.tmp 70) (Operand.tmp 76) 3, none⟩,
    ⟨some 6, Op.assign (Operand.tmp 77), none⟩]
theorem dl28_8 : lowOps d28_8 d28_8.toList = some l28_8 := by kernel_rfl
theorem dx28_8 : lexOK d28_8.toList = true := by kernel_rfl
noncomputable def L28 : LC := (.seq (.reg [⟨some 5, Op.box 31 (Operand.tmp 2), none⟩,
    ⟨some 6, Op.assign (Operand.const (Value.bool false)), none⟩])
  (.seq (.seq (.reg [⟨some 8, Op.fieldAddr 31 (Operand.tmp 5) 1, none⟩,
    ⟨some 9, Op.load 3 (Operand.tmp 8), none⟩,
    ⟨some 10, Op.binOp BinOp.lss 3 (Operand.tmp 9) (Operand.const (Value.int IntKind.i64 0)) 3, none⟩,
    ⟨some 11, Op.move (Operand.tmp 10), none⟩,
    ⟨some 12, Op.fieldAddr 31 (Operand.tmp 5) 1, some (11, false)⟩,
    ⟨some 13, Op.load 3 (Operand.tmp 12), some (11, false)⟩,
    ⟨some 14, Op.move (Operand.tmp 0), some (11, false)⟩,
    ⟨some 15, Op.call { callee := Callee.builtin Builtin.len, args := #[Operand.tmp 14], argTypes := #[22] }, some (11, false)⟩,
    ⟨some 16, Op.binOp BinOp.gtr 3 (Operand.tmp 13) (Operand.tmp 15) 3, some (11, false)⟩,
    ⟨some 17, Op.pick (Operand.tmp 11) (Operand.const (Value.bool true)) (Operand.tmp 16), none⟩,
    ⟨some 18, Op.move (Operand.tmp 17), none⟩,
    ⟨some 19, Op.fieldAddr 31 (Operand.tmp 5) 0, some (18, false)⟩,
    ⟨some 20, Op.load 3 (Operand.tmp 19), some (18, false)⟩,
    ⟨some 21, Op.binOp BinOp.neq 3 (Operand.tmp 20) (Operand.const (Value.int IntKind.i64 2)) 3, some (18, false)⟩,
    ⟨some 22, Op.move (Operand.tmp 21), some (18, false)⟩,
    ⟨some 23, Op.fieldAddr 31 (Operand.tmp 5) 1, some (22, true)⟩,
    ⟨some 24, Op.load 3 (Operand.tmp 23), some (22, true)⟩,
    ⟨some 25, Op.move (Operand.tmp 0), some (22, true)⟩,
    ⟨some 26, Op.call { callee := Callee.builtin Builtin.len, args := #[Operand.tmp 25], argTypes := #[22] }, some (22, true)⟩,
    ⟨some 27, Op.binOp BinOp.eql 3 (Operand.tmp 24) (Operand.tmp 26) 3, some (22, true)⟩,
    ⟨some 28, Op.pick (Operand.tmp 22) (Operand.tmp 27) (Operand.const (Value.bool false)), some (18, false)⟩,
    ⟨some 29, Op.pick (Operand.tmp 18) (Operand.const (Value.bool true)) (Operand.tmp 28), none⟩])
  (.cond (Operand.tmp 29) (.seq (.reg [⟨some 6, Op.assign (Operand.const (Value.bool false)), none⟩])
  .ret)
  .skip))
  (.seq (.seq (.reg [⟨some 30, Op.move (Operand.tmp 1), none⟩,
    ⟨some 31, Op.call { callee := Callee.builtin Builtin.len, args := #[Operand.tmp 30], argTypes := #[23] }, none⟩,
    ⟨some 7, Op.assign (Operand.tmp 31), none⟩])
  (.seq (.draw 4 d28_4)
  (.cond (Operand.tmp 64) (.seq (.reg [⟨some 6, Op.assign (Operand.const (Value.bool false)), none⟩])
  .ret)
  .skip)))
  (.seq (.seq (.reg [⟨some 65, Op.fieldAddr 31 (Operand.tmp 5) 0, none⟩,
    ⟨some 66, Op.load 3 (Operand.tmp 65), none⟩])
  (.block 0 (.seq (.reg [⟨some 68, Op.binOp BinOp.eql 3 (Operand.tmp 66) (Operand.const (Value.int IntKind.i64 1)) 3, none⟩,
    ⟨some 67, Op.assign (Operand.tmp 68), none⟩])
  (.cond (Operand.tmp 67) (.seq (.draw 8 d28_8)
  .ret)
  (.seq (.reg [⟨some 79, Op.binOp BinOp.eql 3 (Operand.tmp 66) (Operand.const (Value.int IntKind.i64 2)) 3, none⟩,
    ⟨some 78, Op.assign (Operand.tmp 79), none⟩])
  (.cond (Operand.tmp 78) (.seq (.reg [⟨some 80, Op.fieldAddr 31 (Operand.tmp 5) 2, none⟩,
    ⟨some 81, Op.load 3 (Operand.tmp 80), none⟩,
    ⟨some 82, Op.binOp BinOp.geq 3 (Operand.tmp 81) (Operand.const (Value.int IntKind.i64 0)) 3, none⟩,
    ⟨some 83, Op.move (Operand.tmp 82), none⟩,
    ⟨some 84, Op.fieldAddr 31 (Operand.tmp 5) 2, some (83, true)⟩,
    ⟨some 85, Op.load 3 (Operand.tmp 84), some (83, true)⟩,
    ⟨some 86, Op.binOp BinOp.lss 3 (Operand.tmp 85) (Operand.const (Value.int IntKind.i64 4)) 3, some (83, true)⟩,
    ⟨some 87, Op.pick (Operand.tmp 83) (Operand.tmp 86) (Operand.const (Value.bool false)), none⟩,
    ⟨some 6, Op.assign (Operand.tmp 87), none⟩])
  .ret)
  (.seq (.reg [⟨some 89, Op.binOp BinOp.eql 3 (Operand.tmp 66) (Operand.const (Value.int IntKind.i64 3)) 3, none⟩,
    ⟨some 88, Op.assign (Operand.tmp 89), none⟩])
  (.cond (Operand.tmp 88) (.seq (.reg [⟨some 90, Op.fieldAddr 31 (Operand.tmp 5) 2, none⟩,
    ⟨some 91, Op.load 3 (Operand.tmp 90), none⟩,
    ⟨some 92, Op.binOp BinOp.eql 3 (Operand.tmp 91) (Operand.const (Value.int IntKind.i64 0)) 3, none⟩,
    ⟨some 6, Op.assign (Operand.tmp 92), none⟩])
  .ret)
  .skip))))))))
  (.seq (.reg [⟨some 6, Op.assign (Operand.const (Value.bool false)), none⟩])
  .ret)))))
theorem low28 : Tryz.f28.body.bind low = some L28 := by kernel_rfl
theorem callm28 {k : Nat} {args : List AV} {H : List AO} {R : AV → List AO → Prop} (h : MX Tryz.prog k L28 (endM Tryz.prog k [ResultVar.tmp 6] R) (args ++ List.replicate (93 - args.length) (.v undef)) H) : AFn Tryz.prog 28 k args H R :=
  AFn_of_MW Tryz.func28 low28 (by decide) rfl rfl (MX_ok h)
theorem callp28 {args : List AV} {r : AV} (h : MX Tryz.prog 0 L28 (endM Tryz.prog 0 [ResultVar.tmp 6] (fun v Ho => v = r ∧ Ho = [])) (args ++ List.replicate (93 - args.length) (.v undef)) []) : APure Tryz.prog 28 args r := APure_of (callm28 h)
noncomputable def L53_b0 : LC := (.seq (.reg [⟨some 9, Op.binOp BinOp.lss 3 (Operand.tmp 8) (Operand.tmp 7) 3, none⟩])
  (.seq (.cond (Operand.tmp 9) .skip
  (.exit 0))
  (.seq (.block 1 (.seq (.reg [⟨some 10, Op.move (Operand.tmp 8), none⟩,
    ⟨some 5, Op.assign (Operand.tmp 10), none⟩])
  (.seq (.reg [⟨some 11, Op.move (Operand.tmp 1), none⟩,
    ⟨some 12, Op.move (Operand.tmp 0), none⟩,
    ⟨some 13, Op.move (Operand.tmp 5), none⟩,
    ⟨some 14, Op.indexAddr 22 (Operand.tmp 12) (Operand.tmp 13), none⟩,
    ⟨some 15, Op.load 3 (Operand.tmp 14), none⟩,
    ⟨some 16, Op.call { callee := Callee.value (Operand.tmp 11), args := #[Operand.tmp 15], argTypes := #[3] }, none⟩])
  (.cond (Operand.tmp 16) (.seq (.reg [⟨some 17, Op.move (Operand.tmp 5), none⟩,
    ⟨some 4, Op.assign (Operand.tmp 17), none⟩])
  .ret)
  .skip))))
  (.reg [⟨some 18, Op.binOp BinOp.add 3 (Operand.tmp 8) (Operand.const (Value.int IntKind.i64 1)) 3, none⟩,
    ⟨some 8, Op.move (Operand.tmp 18), none⟩]))))
noncomputable def L53 : LC := (.seq (.reg [⟨some 4, Op.assign (Operand.const (Value.int IntKind.i64 0)), none⟩])
  (.seq (.seq (.reg [⟨some 6, Op.move (Operand.tmp 0), none⟩,
    ⟨some 7, Op.call { callee := Callee.builtin Builtin.len, args := #[Operand.tmp 6], argTypes := #[22] }, none⟩,
    ⟨some 8, Op.move (Operand.const (Value.int IntKind.i64 0)), none⟩])
  (.block 0 (.loop L53_b0)))
  (.seq (.reg [⟨some 4, Op.assign (Operand.const (Value.int IntKind.i64 (-1))), none⟩])
  .ret)))
theorem low53 : Tryz.f53.body.bind low = some L53 := by kernel_rfl
theorem callm53 {k : Nat} {args : List AV} {H : List AO} {R : AV → List AO → Prop} (h : MX Tryz.prog k L53 (endM Tryz.prog k [ResultVar.tmp 4] R) (args ++ List.replicate (19 - args.length) (.v undef)) H) : AFn Tryz.prog 53 k args H R :=
  AFn_of_MW Tryz.func53 low53 (by decide) rfl rfl (MX_ok h)
theorem callp53 {args : List AV} {r : AV} (h : MX Tryz.prog 0 L53 (endM Tryz.prog 0 [ResultVar.tmp 4] (fun v Ho => v = r ∧ Ho = [])) (args ++ List.replicate (19 - args.length) (.v undef)) []) : APure Tryz.prog 53 args r := APure_of (callm53 h)
end Go.Proofs.YtkggkkjiidbclaaGreatDoor
