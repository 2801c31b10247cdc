/- Part 13 of the texts that lead to bestWeakenCard_holds. No condition. -/
import Derived.Test.YthoonenhakbkgaaGreatDoorH12
set_option linter.unusedSimpArgs false
set_option linter.unusedVariables false
set_option linter.unnecessarySimpa false
namespace Go.Proofs.YthoonenhakbkgaaGreatDoor
open Go Go.Abs
set_option maxRecDepth 100000
noncomputable def d3_3 : Array Oper := drawOps Tryz.f3 3
def l3_3 : List LOp := [⟨some 30, Op.fieldAddr 24 (Operand.tmp 2) 0, none⟩,
    ⟨some 31, Op.load 3 (Operand.tmp 30), none⟩,
    ⟨some 32, Op.fieldAddr 24 (Operand.tmp 2) 1, none⟩,
    ⟨some 33, Op.load 22 (Operand.tmp 32), none⟩,
    ⟨some 34, Op.call { callee := Callee.value (Operand.func 7), args := #[Operand.tmp 33], argTypes := #[22] }, none⟩,
    ⟨some 35, Op.build 24 #[(0, Operand.tmp 31), (1, Operand.tmp 34)], none⟩,
    ⟨some 36, Op.move (Operand.tmp 1), none⟩,
    ⟨some 37, Op.call { callee := Callee.value (Operand.func 6), args := #[Operand.tmp 35, Operand.tmp 36], argTypes := #[24, 3] }, none⟩,
    ⟨some 29, Op.move (Operand.tmp 37), none⟩,
    ⟨some 38, Op.extract (Operand.tmp 29) 0, none⟩,
    ⟨some 39, Op.extract (Operand.tmp 29) 1, none⟩,
    ⟨some 5, Op.alloc 24, none⟩,
    ⟨none, Op.store 24 (Operand.tmp 5) (Operand.tmp 38), none⟩,
    ⟨some 6, Op.assign (Operand.tmp 39), none⟩]
theorem dl3_3 : lowOps d3_3 d3_3.toList = some l3_3 := by kernel_rfl
theorem dx3_3 : lexOK d3_3.toList = true := by kernel_rfl
def an3_3 : List (List Nat) := [[], [0], [], [2], [2, 3], [0, 1, 2, 3, 4], [], [0, 1, 2, 3, 4, 5, 6], [0, 1, 2, 3, 4, 5, 6, 7], [0, 1, 2, 3, 4, 5, 6, 7, 8], [0, 1, 2, 3, 4, 5, 6, 7, 8], [], [0, 1, 2, 3, 4, 5, 6, 7, 8, 9, 11], [0, 1, 2, 3, 4, 5, 6, 7, 8, 9, 10, 11, 12]]
theorem ax3_3 : ancOK d3_3.toList an3_3 = true := by kernel_rfl
noncomputable def L3 : LC := (.seq (.reg [⟨some 2, Op.box 24 (Operand.tmp 0), none⟩,
    ⟨some 4, Op.assign (Operand.const (Value.bool false)), none⟩])
  (.seq (.seq (.reg [⟨some 9, Op.call { callee := Callee.value (Operand.func 4), args := #[], argTypes := #[] }, none⟩,
    ⟨some 10, Op.unOp UnOp.not 4 (Operand.tmp 9), none⟩,
    ⟨some 11, Op.move (Operand.tmp 10), none⟩,
    ⟨some 12, Op.load 24 (Operand.tmp 2), some (11, false)⟩,
    ⟨some 13, Op.call { callee := Callee.value (Operand.func 5), args := #[Operand.tmp 12], argTypes := #[24] }, some (11, false)⟩,
    ⟨some 14, Op.unOp UnOp.not 4 (Operand.tmp 13), some (11, false)⟩,
    ⟨some 15, Op.move (Operand.tmp 14), some (11, false)⟩,
    ⟨some 16, Op.fieldAddr 24 (Operand.tmp 2) 1, some (15, true)⟩,
    ⟨some 17, Op.load 22 (Operand.tmp 16), some (15, true)⟩,
    ⟨some 18, Op.call { callee := Callee.builtin Builtin.len, args := #[Operand.tmp 17], argTypes := #[22] }, some (15, true)⟩,
    ⟨some 19, Op.binOp BinOp.leq 3 (Operand.tmp 18) (Operand.const (Value.int IntKind.i64 20000)) 3, some (15, true)⟩,
    ⟨some 20, Op.pick (Operand.tmp 15) (Operand.tmp 19) (Operand.const (Value.bool false)), some (11, false)⟩,
    ⟨some 21, Op.pick (Operand.tmp 11) (Operand.const (Value.bool true)) (Operand.tmp 20), none⟩,
    ⟨some 22, Op.move (Operand.tmp 21), none⟩,
    ⟨some 23, Op.fieldAddr 24 (Operand.tmp 2) 1, some (22, false)⟩,
    ⟨some 24, Op.load 22 (Operand.tmp 23), some (22, false)⟩,
    ⟨some 25, Op.call { callee := Callee.builtin Builtin.len, args := #[Operand.tmp 24], argTypes := #[22] }, some (22, false)⟩,
    ⟨some 26, Op.binOp BinOp.gtr 3 (Operand.tmp 25) (Operand.const (Value.int IntKind.i64 20100)) 3, some (22, false)⟩,
    ⟨some 27, Op.pick (Operand.tmp 22) (Operand.const (Value.bool true)) (Operand.tmp 26), none⟩])
  (.cond (Operand.tmp 27) (.seq (.reg [⟨some 28, Op.call { callee := Callee.value (Operand.func 4), args := #[], argTypes := #[] }, none⟩,
    ⟨some 4, Op.assign (Operand.tmp 28), none⟩])
  .ret)
  .skip))
  (.seq (.draw 3 d3_3)
  (.seq (.reg [⟨some 41, Op.load 24 (Operand.tmp 2), none⟩,
    ⟨some 42, Op.move (Operand.tmp 1), none⟩,
    ⟨some 43, Op.call { callee := Callee.value (Operand.func 8), args := #[Operand.tmp 41, Operand.tmp 42], argTypes := #[24, 3] }, none⟩,
    ⟨some 40, Op.move (Operand.tmp 43), none⟩,
    ⟨some 44, Op.extract (Operand.tmp 40) 0, none⟩,
    ⟨some 45, Op.extract (Operand.tmp 40) 1, none⟩,
    ⟨some 7, Op.alloc 24, none⟩,
    ⟨none, Op.store 24 (Operand.tmp 7) (Operand.tmp 44), none⟩,
    ⟨some 8, Op.assign (Operand.tmp 45), none⟩])
  (.seq (.reg [⟨some 46, Op.move (Operand.tmp 6), none⟩,
    ⟨some 47, Op.move (Operand.tmp 8), none⟩,
    ⟨some 48, Op.binOp BinOp.eql 27 (Operand.tmp 46) (Operand.tmp 47) 27, none⟩,
    ⟨some 49, Op.move (Operand.tmp 48), none⟩,
    ⟨some 50, Op.load 24 (Operand.tmp 5), some (49, true)⟩,
    ⟨some 51, Op.load 24 (Operand.tmp 7), some (49, true)⟩,
    ⟨some 52, Op.call { callee := Callee.value (Operand.func 9), args := #[Operand.tmp 50, Operand.tmp 51], argTypes := #[24, 24] }, some (49, true)⟩,
    ⟨some 53, Op.pick (Operand.tmp 49) (Operand.tmp 52) (Operand.const (Value.bool false)), none⟩,
    ⟨some 4, Op.assign (Operand.tmp 53), none⟩])
  .ret)))))
theorem low3 : Tryz.f3.body.bind low = some L3 := by kernel_rfl
theorem callm3 {k : Nat} {args : List AV} {H : List AO} {R : AV → List AO → Prop} (h : MX Tryz.prog k L3 (endM Tryz.prog k [ResultVar.tmp 4] R) (args ++ List.replicate (54 - args.length) (.v undef)) H) : AFn Tryz.prog 3 k args H R :=
  AFn_of_MW Tryz.func3 low3 (by decide) rfl rfl (MX_ok h)
theorem callp3 {args : List AV} {r : AV} (h : MX Tryz.prog 0 L3 (endM Tryz.prog 0 [ResultVar.tmp 4] (fun v Ho => v = r ∧ Ho = [])) (args ++ List.replicate (54 - args.length) (.v undef)) []) : APure Tryz.prog 3 args r := APure_of (callm3 h)
noncomputable def L5 : LC := (.seq (.reg [⟨some 1, Op.box 24 (Operand.tmp 0), none⟩,
    ⟨some 2, Op.assign (Operand.const (Value.bool false)), none⟩])
  (.seq (.reg [⟨some 3, Op.fieldAddr 24 (Operand.tmp 1) 1, none⟩,
    ⟨some 4, Op.load 22 (Operand.tmp 3), none⟩,
    ⟨some 5, Op.call { callee := Callee.builtin Builtin.len, args := #[Operand.tmp 4], argTypes := #[22] }, none⟩,
    ⟨some 6, Op.binOp BinOp.leq 3 (Operand.tmp 5) (Operand.const (Value.int IntKind.i64 4000)) 3, none⟩,
    ⟨some 2, Op.assign (Operand.tmp 6), none⟩])
  .ret))
theorem low5 : Tryz.f5.body.bind low = some L5 := by kernel_rfl
theorem callm5 {k : Nat} {args : List AV} {H : List AO} {R : AV → List AO → Prop} (h : MX Tryz.prog k L5 (endM Tryz.prog k [ResultVar.tmp 2] R) (args ++ List.replicate (7 - args.length) (.v undef)) H) : AFn Tryz.prog 5 k args H R :=
  AFn_of_MW Tryz.func5 low5 (by decide) rfl rfl (MX_ok h)
theorem callp5 {args : List AV} {r : AV} (h : MX Tryz.prog 0 L5 (endM Tryz.prog 0 [ResultVar.tmp 2] (fun v Ho => v = r ∧ Ho = [])) (args ++ List.replicate (7 - args.length) (.v undef)) []) : APure Tryz.prog 5 args r := APure_of (callm5 h)
noncomputable def L6_b0 : LC := (.seq (.reg [⟨some 39, Op.binOp BinOp.lss 3 (Operand.tmp 38) (Operand.tmp 37) 3, none⟩])
  (.seq (.cond (Operand.tmp 39) .skip
  (.exit 0))
  (.seq (.block 1 (.seq (.reg [⟨some 40, Op.indexAddr 22 (Operand.tmp 36) (Operand.tmp 38), none⟩,
    ⟨some 41, Op.load 32 (Operand.tmp 40), none⟩,
    ⟨some 8, Op.alloc 32, none⟩,
    ⟨none, Op.store 32 (Operand.tmp 8) (Operand.tmp 41), none⟩])
  (.seq (.seq (.reg [⟨some 42, Op.fieldAddr 32 (Operand.tmp 8) 2, none⟩,
    ⟨some 43, Op.load 3 (Operand.tmp 42), none⟩,
    ⟨some 44, Op.binOp BinOp.lss 3 (Operand.tmp 43) (Operand.const (Value.int IntKind.i64 (-1099511627776))) 3, none⟩,
    ⟨some 45, Op.move (Operand.tmp 44), none⟩,
    ⟨some 46, Op.fieldAddr 32 (Operand.tmp 8) 2, some (45, false)⟩,
    ⟨some 47, Op.load 3 (Operand.tmp 46), some (45, false)⟩,
    ⟨some 48, Op.binOp BinOp.gtr 3 (Operand.tmp 47) (Operand.const (Value.int IntKind.i64 1099511627776)) 3, some (45, false)⟩,
    ⟨some 49, Op.pick (Operand.tmp 45) (Operand.const (Value.bool true)) (Operand.tmp 48), none⟩])
  (.cond (Operand.tmp 49) (.seq (.reg [⟨some 50, Op.build 24 #[], none⟩,
    ⟨none, Op.store 24 (Operand.tmp 4) (Operand.tmp 50), none⟩,
    ⟨some 5, Op.assign (Operand.const (Value.int IntKind.i64 1)), none⟩])
  .ret)
  .skip))
  (.seq (.reg [⟨some 51, Op.fieldAddr 32 (Operand.tmp 8) 2, none⟩,
    ⟨some 52, Op.load 3 (Operand.tmp 51), none⟩,
    ⟨some 53, Op.move (Operand.tmp 1), none⟩,
    ⟨some 54, Op.binOp BinOp.sub 3 (Operand.tmp 52) (Operand.tmp 53) 3, none⟩,
    ⟨some 55, Op.fieldAddr 32 (Operand.tmp 8) 2, none⟩,
    ⟨none, Op.store 3 (Operand.tmp 55) (Operand.tmp 54), none⟩])
  (.reg [⟨some 56, Op.fieldAddr 24 (Operand.tmp 6) 1, none⟩,
    ⟨some 57, Op.load 22 (Operand.tmp 56), none⟩,
    ⟨some 58, Op.load 32 (Operand.tmp 8), none⟩,
    ⟨some 59, Op.buildSlice 22 1 #[(0, Operand.tmp 58)], none⟩,
    ⟨some 60, Op.call { callee := Callee.builtin Builtin.append, args := #[Operand.tmp 57, Operand.tmp 59], argTypes := #[22, 22] }, none⟩,
    ⟨some 61, Op.fieldAddr 24 (Operand.tmp 6) 1, none⟩,
    ⟨none, Op.store 22 (Operand.tmp 61) (Operand.tmp 60), none⟩])))))
  (.reg [⟨some 62, Op.binOp BinOp.add 3 (Operand.tmp 38) (Operand.const (Value.int IntKind.i64 1)) 3, none⟩,
    ⟨some 38, Op.move (Operand.tmp 62), none⟩]))))
noncomputable def L6 : LC := (.seq (.reg [⟨some 2, Op.box 24 (Operand.tmp 0), none⟩,
    ⟨some 4, Op.alloc 24, none⟩,
    ⟨some 5, Op.assign (Operand.const (Value.int IntKind.i64 0)), none⟩])
  (.seq (.seq (.reg [⟨some 9, Op.fieldAddr 24 (Operand.tmp 2) 1, none⟩,
    ⟨some 10, Op.load 22 (Operand.tmp 9), none⟩,
    ⟨some 11, Op.call { callee := Callee.builtin Builtin.len, args := #[Operand.tmp 10], argTypes := #[22] }, none⟩,
    ⟨some 12, Op.binOp BinOp.gtr 3 (Operand.tmp 11) (Operand.const (Value.int IntKind.i64 20000)) 3, none⟩])
  (.cond (Operand.tmp 12) (.seq (.reg [⟨some 13, Op.build 24 #[], none⟩,
    ⟨none, Op.store 24 (Operand.tmp 4) (Operand.tmp 13), none⟩,
    ⟨some 5, Op.assign (Operand.const (Value.int IntKind.i64 3)), none⟩])
  .ret)
  .skip))
  (.seq (.seq (.reg [⟨some 14, Op.move (Operand.tmp 1), none⟩,
    ⟨some 15, Op.binOp BinOp.lss 3 (Operand.tmp 14) (Operand.const (Value.int IntKind.i64 0)) 3, none⟩,
    ⟨some 16, Op.move (Operand.tmp 15), none⟩,
    ⟨some 17, Op.move (Operand.tmp 1), some (16, false)⟩,
    ⟨some 18, Op.binOp BinOp.gtr 3 (Operand.tmp 17) (Operand.const (Value.int IntKind.i64 1000000)) 3, some (16, false)⟩,
    ⟨some 19, Op.pick (Operand.tmp 16) (Operand.const (Value.bool true)) (Operand.tmp 18), none⟩])
  (.cond (Operand.tmp 19) (.seq (.reg [⟨some 20, Op.build 24 #[], none⟩,
    ⟨none, Op.store 24 (Operand.tmp 4) (Operand.tmp 20), none⟩,
    ⟨some 5, Op.assign (Operand.const (Value.int IntKind.i64 6)), none⟩])
  .ret)
  .skip))
  (.seq (.seq (.reg [⟨some 21, Op.fieldAddr 24 (Operand.tmp 2) 0, none⟩,
    ⟨some 22, Op.load 3 (Operand.tmp 21), none⟩,
    ⟨some 23, Op.binOp BinOp.lss 3 (Operand.tmp 22) (Operand.const (Value.int IntKind.i64 (-1099511627776))) 3, none⟩,
    ⟨some 24, Op.move (Operand.tmp 23), none⟩,
    ⟨some 25, Op.fieldAddr 24 (Operand.tmp 2) 0, some (24, false)⟩,
    ⟨some 26, Op.load 3 (Operand.tmp 25), some (24, false)⟩,
    ⟨some 27, Op.binOp BinOp.gtr 3 (Operand.tmp 26) (Operand.const (Value.int IntKind.i64 1099511627776)) 3, some (24, false)⟩,
    ⟨some 28, Op.pick (Operand.tmp 24) (Operand.const (Value.bool true)) (Operand.tmp 27), none⟩])
  (.cond (Operand.tmp 28) (.seq (.reg [⟨some 29, Op.build 24 #[], none⟩,
    ⟨none, Op.store 24 (Operand.tmp 4) (Operand.tmp 29), none⟩,
    ⟨some 5, Op.assign (Operand.const (Value.int IntKind.i64 1)), none⟩])
  .ret)
  .skip))
  (.seq (.reg [⟨some 30, Op.fieldAddr 24 (Operand.tmp 2) 0, none⟩,
    ⟨some 31, Op.load 3 (Operand.tmp 30), none⟩,
    ⟨some 32, Op.move (Operand.tmp 1), none⟩,
    ⟨some 33, Op.binOp BinOp.sub 3 (Operand.tmp 31) (Operand.tmp 32) 3, none⟩,
    ⟨some 34, Op.build 24 #[(0, Operand.tmp 33)], none⟩,
    ⟨some 6, Op.alloc 24, none⟩,
    ⟨none, Op.store 24 (Operand.tmp 6) (Operand.tmp 34), none⟩])
  (.seq (.seq (.reg [⟨some 35, Op.fieldAddr 24 (Operand.tmp 2) 1, none⟩,
    ⟨some 36, Op.load 22 (Operand.tmp 35), none⟩,
    ⟨some 37, Op.call { callee := Callee.builtin Builtin.len, args := #[Operand.tmp 36], argTypes := #[22] }, none⟩,
    ⟨some 38, Op.move (Operand.const (Value.int IntKind.i64 0)), none⟩])
  (.block 0 (.loop L6_b0)))
  (.seq (.reg [⟨some 63, Op.load 24 (Operand.tmp 6), none⟩,
    ⟨none, Op.store 24 (Operand.tmp 4) (Operand.tmp 63), none⟩,
    ⟨some 5, Op.assign (Operand.const (Value.int IntKind.i64 0)), none⟩])
  .ret)))))))
theorem low6 : Tryz.f6.body.bind low = some L6 := by kernel_rfl
theorem callm6 {k : Nat} {args : List AV} {H : List AO} {R : AV → List AO → Prop} (h : MX Tryz.prog k L6 (endM Tryz.prog k [ResultVar.cell 4 24, ResultVar.tmp 5] R) (args ++ List.replicate (64 - args.length) (.v undef)) H) : AFn Tryz.prog 6 k args H R :=
  AFn_of_MW Tryz.func6 low6 (by decide) rfl rfl (MX_ok h)
theorem callp6 {args : List AV} {r : AV} (h : MX Tryz.prog 0 L6 (endM Tryz.prog 0 [ResultVar.cell 4 24, ResultVar.tmp 5] (fun v Ho => v = r ∧ Ho = [])) (args ++ List.replicate (64 - args.length) (.v undef)) []) : APure Tryz.prog 6 args r := APure_of (callm6 h)
noncomputable def L7 : LC := (.seq (.reg [⟨some 2, Op.assign (Operand.const (Value.slice none 0 0)), none⟩])
  (.seq (.seq (.reg [⟨some 3, Op.move (Operand.tmp 0), none⟩,
    ⟨some 4, Op.binOp BinOp.eql 22 (Operand.tmp 3) (Operand.const (Value.slice none 0 0)) 22, none⟩])
  (.cond (Operand.tmp 4) (.seq (.reg [⟨some 2, Op.assign (Operand.const (Value.slice none 0 0)), none⟩])
  .ret)
  .skip))
  (.seq (.reg [⟨some 5, Op.buildSlice 22 0 #[], none⟩,
    ⟨some 6, Op.move (Operand.tmp 0), none⟩,
    ⟨some 7, Op.call { callee := Callee.builtin Builtin.append, args := #[Operand.tmp 5, Operand.tmp 6], argTypes := #[22, 22] }, none⟩,
    ⟨some 2, Op.assign (Operand.tmp 7), none⟩])
  .ret)))
theorem low7 : Tryz.f7.body.bind low = some L7 := by kernel_rfl
theorem callm7 {k : Nat} {args : List AV} {H : List AO} {R : AV → List AO → Prop} (h : MX Tryz.prog k L7 (endM Tryz.prog k [ResultVar.tmp 2] R) (args ++ List.replicate (8 - args.length) (.v undef)) H) : AFn Tryz.prog 7 k args H R :=
  AFn_of_MW Tryz.func7 low7 (by decide) rfl rfl (MX_ok h)
theorem callp7 {args : List AV} {r : AV} (h : MX Tryz.prog 0 L7 (endM Tryz.prog 0 [ResultVar.tmp 2] (fun v Ho => v = r ∧ Ho = [])) (args ++ List.replicate (8 - args.length) (.v undef)) []) : APure Tryz.prog 7 args r := APure_of (callm7 h)
noncomputable def L8_b0 : LC := (.seq (.seq (.reg [⟨some 22, Op.move (Operand.tmp 6), none⟩,
    ⟨some 23, Op.fieldAddr 24 (Operand.tmp 2) 1, none⟩,
    ⟨some 24, Op.load 22 (Operand.tmp 23), none⟩,
    ⟨some 25, Op.call { callee := Callee.builtin Builtin.len, args := #[Operand.tmp 24], argTypes := #[22] }, none⟩,
    ⟨some 26, Op.binOp BinOp.lss 3 (Operand.tmp 22) (Operand.tmp 25) 3, none⟩])
  (.cond (Operand.tmp 26) .skip
  (.exit 0)))
  (.seq (.block 1 (.seq (.reg [⟨some 29, Op.fieldAddr 24 (Operand.tmp 2) 1, none⟩,
    ⟨some 30, Op.load 22 (Operand.tmp 29), none⟩,
    ⟨some 31, Op.move (Operand.tmp 6), none⟩,
    ⟨some 32, Op.indexAddr 22 (Operand.tmp 30) (Operand.tmp 31), none⟩,
    ⟨some 33, Op.fieldAddr 32 (Operand.tmp 32) 2, none⟩,
    ⟨some 34, Op.load 3 (Operand.tmp 33), none⟩,
    ⟨some 35, Op.binOp BinOp.lss 3 (Operand.tmp 34) (Operand.const (Value.int IntKind.i64 (-1099511627776))) 3, none⟩,
    ⟨some 36, Op.move (Operand.tmp 35), none⟩,
    ⟨some 37, Op.fieldAddr 24 (Operand.tmp 2) 1, some (36, false)⟩,
    ⟨some 38, Op.load 22 (Operand.tmp 37), some (36, false)⟩,
    ⟨some 39, Op.move (Operand.tmp 6), some (36, false)⟩,
    ⟨some 40, Op.indexAddr 22 (Operand.tmp 38) (Operand.tmp 39), some (36, false)⟩,
    ⟨some 41, Op.fieldAddr 32 (Operand.tmp 40) 2, some (36, false)⟩,
    ⟨some 42, Op.load 3 (Operand.tmp 41), some (36, false)⟩,
    ⟨some 43, Op.binOp BinOp.gtr 3 (Operand.tmp 42) (Operand.const (Value.int IntKind.i64 1099511627776)) 3, some (36, false)⟩,
    ⟨some 44, Op.pick (Operand.tmp 36) (Operand.const (Value.bool true)) (Operand.tmp 43), none⟩])
  (.cond (Operand.tmp 44) (.seq (.reg [⟨some 45, Op.build 24 #[], none⟩,
    ⟨none, Op.store 24 (Operand.tmp 4) (Operand.tmp 45), none⟩,
    ⟨some 5, Op.assign (Operand.const (Value.int IntKind.i64 1)), none⟩])
  .ret)
  .skip)))
  (.reg [⟨some 27, Op.move (Operand.tmp 6), none⟩,
    ⟨some 28, Op.binOp BinOp.add 3 (Operand.tmp 27) (Operand.const (Value.int IntKind.i64 1)) 3, none⟩,
    ⟨some 6, Op.assign (Operand.tmp 28), none⟩])))
noncomputable def L8_b1 : LC := (.seq (.seq (.reg [⟨some 60, Op.move (Operand.tmp 8), none⟩,
    ⟨some 61, Op.fieldAddr 24 (Operand.tmp 2) 1, none⟩,
    ⟨some 62, Op.load 22 (Operand.tmp 61), none⟩,
    ⟨some 63, Op.call { callee := Callee.builtin Builtin.len, args := #[Operand.tmp 62], argTypes := #[22] }, none⟩,
    ⟨some 64, Op.binOp BinOp.lss 3 (Operand.tmp 60) (Operand.tmp 63) 3, none⟩])
  (.cond (Operand.tmp 64) .skip
  (.exit 2)))
  (.seq (.block 3 (.seq (.reg [⟨some 67, Op.fieldAddr 24 (Operand.tmp 2) 1, none⟩,
    ⟨some 68, Op.load 22 (Operand.tmp 67), none⟩,
    ⟨some 69, Op.move (Operand.tmp 8), none⟩,
    ⟨some 70, Op.indexAddr 22 (Operand.tmp 68) (Operand.tmp 69), none⟩,
    ⟨some 71, Op.load 32 (Operand.tmp 70), none⟩,
    ⟨some 9, Op.alloc 32, none⟩,
    ⟨none, Op.store 32 (Operand.tmp 9) (Operand.tmp 71), none⟩])
  (.seq (.reg [⟨some 72, Op.fieldAddr 32 (Operand.tmp 9) 2, none⟩,
    ⟨some 73, Op.load 3 (Operand.tmp 72), none⟩,
    ⟨some 74, Op.move (Operand.tmp 1), none⟩,
    ⟨some 75, Op.binOp BinOp.sub 3 (Operand.tmp 73) (Operand.tmp 74) 3, none⟩,
    ⟨some 76, Op.fieldAddr 32 (Operand.tmp 9) 2, none⟩,
    ⟨none, Op.store 3 (Operand.tmp 76) (Operand.tmp 75), none⟩])
  (.reg [⟨some 77, Op.fieldAddr 24 (Operand.tmp 7) 1, none⟩,
    ⟨some 78, Op.load 22 (Operand.tmp 77), none⟩,
    ⟨some 79, Op.load 32 (Operand.tmp 9), none⟩,
    ⟨some 80, Op.buildSlice 22 1 #[(0, Operand.tmp 79)], none⟩,
    ⟨some 81, Op.call { callee := Callee.builtin Builtin.append, args := #[Operand.tmp 78, Operand.tmp 80], argTypes := #[22, 22] }, none⟩,
    ⟨some 82, Op.fieldAddr 24 (Operand.tmp 7) 1, none⟩,
    ⟨none, Op.store 22 (Operand.tmp 82) (Operand.tmp 81), none⟩]))))
  (.reg [⟨some 65, Op.move (Operand.tmp 8), none⟩,
    ⟨some 66, Op.binOp BinOp.add 3 (Operand.tmp 65) (Operand.const (Value.int IntKind.i64 1)) 3, none⟩,
    ⟨some 8, Op.assign (Operand.tmp 66), none⟩])))
noncomputable def L8 : LC := (.seq (.reg [⟨some 2, Op.box 24 (Operand.tmp 0), none⟩,
    ⟨some 4, Op.alloc 24, none⟩,
    ⟨some 5, Op.assign (Operand.const (Value.int IntKind.i64 0)), none⟩])
  (.seq (.seq (.reg [⟨some 10, Op.fieldAddr 24 (Operand.tmp 2) 1, none⟩,
    ⟨some 11, Op.load 22 (Operand.tmp 10), none⟩,
    ⟨some 12, Op.call { callee := Callee.builtin Builtin.len, args := #[Operand.tmp 11], argTypes := #[22] }, none⟩,
    ⟨some 13, Op.binOp BinOp.gtr 3 (Operand.tmp 12) (Operand.const (Value.int IntKind.i64 20000)) 3, none⟩])
  (.cond (Operand.tmp 13) (.seq (.reg [⟨some 14, Op.build 24 #[], none⟩,
    ⟨none, Op.store 24 (Operand.tmp 4) (Operand.tmp 14), none⟩,
    ⟨some 5, Op.assign (Operand.const (Value.int IntKind.i64 3)), none⟩])
  .ret)
  .skip))
  (.seq (.seq (.reg [⟨some 15, Op.move (Operand.tmp 1), none⟩,
    ⟨some 16, Op.binOp BinOp.lss 3 (Operand.tmp 15) (Operand.const (Value.int IntKind.i64 0)) 3, none⟩,
    ⟨some 17, Op.move (Operand.tmp 16), none⟩,
    ⟨some 18, Op.move (Operand.tmp 1), some (17, false)⟩,
    ⟨some 19, Op.binOp BinOp.gtr 3 (Operand.tmp 18) (Operand.const (Value.int IntKind.i64 1000000)) 3, some (17, false)⟩,
    ⟨some 20, Op.pick (Operand.tmp 17) (Operand.const (Value.bool true)) (Operand.tmp 19), none⟩])
  (.cond (Operand.tmp 20) (.seq (.reg [⟨some 21, Op.build 24 #[], none⟩,
    ⟨none, Op.store 24 (Operand.tmp 4) (Operand.tmp 21), none⟩,
    ⟨some 5, Op.assign (Operand.const (Value.int IntKind.i64 6)), none⟩])
  .ret)
  .skip))
  (.seq (.seq (.reg [⟨some 6, Op.assign (Operand.const (Value.int IntKind.i64 0)), none⟩])
  (.block 0 (.loop L8_b0)))
  (.seq (.seq (.reg [⟨some 46, Op.fieldAddr 24 (Operand.tmp 2) 0, none⟩,
    ⟨some 47, Op.load 3 (Operand.tmp 46), none⟩,
    ⟨some 48, Op.binOp BinOp.lss 3 (Operand.tmp 47) (Operand.const (Value.int IntKind.i64 (-1099511627776))) 3, none⟩,
    ⟨some 49, Op.move (Operand.tmp 48), none⟩,
    ⟨some 50, Op.fieldAddr 24 (Operand.tmp 2) 0, some (49, false)⟩,
    ⟨some 51, Op.load 3 (Operand.tmp 50), some (49, false)⟩,
    ⟨some 52, Op.binOp BinOp.gtr 3 (Operand.tmp 51) (Operand.const (Value.int IntKind.i64 1099511627776)) 3, some (49, false)⟩,
    ⟨some 53, Op.pick (Operand.tmp 49) (Operand.const (Value.bool true)) (Operand.tmp 52), none⟩])
  (.cond (Operand.tmp 53) (.seq (.reg [⟨some 54, Op.build 24 #[], none⟩,
    ⟨none, Op.store 24 (Operand.tmp 4) (Operand.tmp 54), none⟩,
    ⟨some 5, Op.assign (Operand.const (Value.int IntKind.i64 1)), none⟩])
  .ret)
  .skip))
  (.seq (.reg [⟨some 55, Op.fieldAddr 24 (Operand.tmp 2) 0, none⟩,
    ⟨some 56, Op.load 3 (Operand.tmp 55), none⟩,
    ⟨some 57, Op.move (Operand.tmp 1), none⟩,
    ⟨some 58, Op.binOp BinOp.sub 3 (Operand.tmp 56) (Operand.tmp 57) 3, none⟩,
    ⟨some 59, Op.build 24 #[(0, Operand.tmp 58)], none⟩,
    ⟨some 7, Op.alloc 24, none⟩,
    ⟨none, Op.store 24 (Operand.tmp 7) (Operand.tmp 59), none⟩])
  (.seq (.seq (.reg [⟨some 8, Op.assign (Operand.const (Value.int IntKind.i64 0)), none⟩])
  (.block 2 (.loop L8_b1)))
  (.seq (.reg [⟨some 83, Op.load 24 (Operand.tmp 7), none⟩,
    ⟨none, Op.store 24 (Operand.tmp 4) (Operand.tmp 83), none⟩,
    ⟨some 5, Op.assign (Operand.const (Value.int IntKind.i64 0)), none⟩])
  .ret))))))))
theorem low8 : Tryz.f8.body.bind low = some L8 := by kernel_rfl
theorem callm8 {k : Nat} {args : List AV} {H : List AO} {R : AV → List AO → Prop} (h : MX Tryz.prog k L8 (endM Tryz.prog k [ResultVar.cell 4 24, ResultVar.tmp 5] R) (args ++ List.replicate (84 - args.length) (.v undef)) H) : AFn Tryz.prog 8 k args H R :=
  AFn_of_MW Tryz.func8 low8 (by decide) rfl rfl (MX_ok h)
theorem callp8 {args : List AV} {r : AV} (h : MX Tryz.prog 0 L8 (endM Tryz.prog 0 [ResultVar.cell 4 24, ResultVar.tmp 5] (fun v Ho => v = r ∧ Ho = [])) (args ++ List.replicate (84 - args.length) (.v undef)) []) : APure Tryz.prog 8 args r := APure_of (callm8 h)
noncomputable def L9 : LC := (.seq (.reg [⟨some 2, Op.box 24 (Operand.tmp 0), none⟩,
    ⟨some 3, Op.box 24 (Operand.tmp 1), none⟩,
    ⟨some 4, Op.assign (Operand.const (Value.bool false)), none⟩])
  (.seq (.reg [⟨some 5, Op.fieldAddr 24 (Operand.tmp 2) 0, none⟩,
    ⟨some 6, Op.load 3 (Operand.tmp 5), none⟩,
    ⟨some 7, Op.fieldAddr 24 (Operand.tmp 3) 0, none⟩,
    ⟨some 8, Op.load 3 (Operand.tmp 7), none⟩,
    ⟨some 9, Op.binOp BinOp.eql 3 (Operand.tmp 6) (Operand.tmp 8) 3, none⟩,
    ⟨some 10, Op.move (Operand.tmp 9), none⟩,
    ⟨some 11, Op.fieldAddr 24 (Operand.tmp 2) 1, some (10, true)⟩,
    ⟨some 12, Op.load 22 (Operand.tmp 11), some (10, true)⟩,
    ⟨some 13, Op.fieldAddr 24 (Operand.tmp 3) 1, some (10, true)⟩,
    ⟨some 14, Op.load 22 (Operand.tmp 13), some (10, true)⟩,
    ⟨some 15, Op.call { callee := Callee.value (Operand.func 16), args := #[Operand.tmp 12, Operand.tmp 14], argTypes := #[22, 22] }, some (10, true)⟩,
    ⟨some 16, Op.pick (Operand.tmp 10) (Operand.tmp 15) (Operand.const (Value.bool false)), none⟩,
    ⟨some 4, Op.assign (Operand.tmp 16), none⟩])
  .ret))
theorem low9 : Tryz.f9.body.bind low = some L9 := by kernel_rfl
theorem callm9 {k : Nat} {args : List AV} {H : List AO} {R : AV → List AO → Prop} (h : MX Tryz.prog k L9 (endM Tryz.prog k [ResultVar.tmp 4] R) (args ++ List.replicate (17 - args.length) (.v undef)) H) : AFn Tryz.prog 9 k args H R :=
  AFn_of_MW Tryz.func9 low9 (by decide) rfl rfl (MX_ok h)
theorem callp9 {args : List AV} {r : AV} (h : MX Tryz.prog 0 L9 (endM Tryz.prog 0 [ResultVar.tmp 4] (fun v Ho => v = r ∧ Ho = [])) (args ++ List.replicate (17 - args.length) (.v undef)) []) : APure Tryz.prog 9 args r := APure_of (callm9 h)
noncomputable def d16_6 : Array Oper := drawOps Tryz.f16 6
def l16_6 : List LOp := [⟨some 17, Op.move (Operand.tmp 0), none⟩,
    ⟨some 18, Op.move (Operand.tmp 5), none⟩,
    ⟨some 19, Op.indexAddr 22 (Operand.tmp 17) (Operand.tmp 18), none⟩,
    ⟨some 20, Op.load 32 (Operand.tmp 19), none⟩,
    ⟨some 21, Op.move (Operand.tmp 1), none⟩,
    ⟨some 22, Op.move (Operand.tmp 5), none⟩,
    ⟨some 23, Op.indexAddr 22 (Operand.tmp 21) (Operand.tmp 22), none⟩,
    ⟨some 24, Op.load 32 (Operand.tmp 23), none⟩,
    ⟨some 25, Op.binOp BinOp.neq 32 (Operand.tmp 20) (Operand.tmp 24) 32, none⟩]
theorem dl16_6 : lowOps d16_6 d16_6.toList = some l16_6 := by kernel_rfl
theorem dx16_6 : lexOK d16_6.toList = true := by kernel_rfl
noncomputable def L16_b0 : LC := (.seq (.seq (.reg [⟨some 11, Op.move (Operand.tmp 5), none⟩,
    ⟨some 12, Op.move (Operand.tmp 0), none⟩,
    ⟨some 13, Op.call { callee := Callee.builtin Builtin.len, args := #[Operand.tmp 12], argTypes := #[22] }, none⟩,
    ⟨some 14, Op.binOp BinOp.lss 3 (Operand.tmp 11) (Operand.tmp 13) 3, none⟩])
  (.cond (Operand.tmp 14) .skip
  (.exit 0)))
  (.seq (.block 1 (.seq (.draw 6 d16_6)
  (.cond (Operand.tmp 25) (.seq (.reg [⟨some 4, Op.assign (Operand.const (Value.bool false)), none⟩])
  .ret)
  .skip)))
  (.reg [⟨some 15, Op.move (Operand.tmp 5), none⟩,
    ⟨some 16, Op.binOp BinOp.add 3 (Operand.tmp 15) (Operand.const (Value.int IntKind.i64 1)) 3, none⟩,
    ⟨some 5, Op.assign (Operand.tmp 16), none⟩])))
noncomputable def L16 : LC := (.seq (.reg [⟨some 4, Op.assign (Operand.const (Value.bool false)), none⟩])
  (.seq (.seq (.reg [⟨some 6, Op.move (Operand.tmp 0), none⟩,
    ⟨some 7, Op.call { callee := Callee.builtin Builtin.len, args := #[Operand.tmp 6], argTypes := #[22] }, none⟩,
    ⟨some 8, Op.move (Operand.tmp 1), none⟩,
    ⟨some 9, Op.call { callee := Callee.builtin Builtin.len, args := #[Operand.tmp 8], argTypes := #[22] }, none⟩,
    ⟨some 10, Op.binOp BinOp.neq 3 (Operand.tmp 7) (Operand.tmp 9) 3, none⟩])
  (.cond (Operand.tmp 10) (.seq (.reg [⟨some 4, Op.assign (Operand.const (Value.bool false)), none⟩])
  .ret)
  .skip))
  (.seq (.seq (.reg [⟨some 5, Op.assign (Operand.const (Value.int IntKind.i64 0)), none⟩])
  (.block 0 (.loop L16_b0)))
  (.seq (.reg [⟨some 4, Op.assign (Operand.const (Value.bool true)), none⟩])
  .ret))))
theorem low16 : Tryz.f16.body.bind low = some L16 := by kernel_rfl
theorem callm16 {k : Nat} {args : List AV} {H : List AO} {R : AV → List AO → Prop} (h : MX Tryz.prog k L16 (endM Tryz.prog k [ResultVar.tmp 4] R) (args ++ List.replicate (26 - args.length) (.v undef)) H) : AFn Tryz.prog 16 k args H R :=
  AFn_of_MW Tryz.func16 low16 (by decide) rfl rfl (MX_ok h)
theorem callp16 {args : List AV} {r : AV} (h : MX Tryz.prog 0 L16 (endM Tryz.prog 0 [ResultVar.tmp 4] (fun v Ho => v = r ∧ Ho = [])) (args ++ List.replicate (26 - args.length) (.v undef)) []) : APure Tryz.prog 16 args r := APure_of (callm16 h)
end Go.Proofs.YthoonenhakbkgaaGreatDoor
