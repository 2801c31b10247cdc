/- Part 13 of the texts that lead to gapFill_holds, gapSpace_holds, gapWider_holds. No condition. -/
import Derived.Test.YtimblogmflmhkaaH12
set_option linter.unusedSimpArgs false
set_option linter.unusedVariables false
set_option linter.unnecessarySimpa false
namespace Go.Proofs.Ytimblogmflmhkaa
open Go Go.Abs
noncomputable def L3 : LC := (.seq (.reg [⟨some 3, Op.box 23 (Operand.tmp 0), none⟩,
    ⟨some 4, Op.box 26 (Operand.tmp 1), none⟩,
    ⟨some 5, Op.box 27 (Operand.tmp 2), none⟩,
    ⟨some 6, Op.assign (Operand.const (Value.bool false)), none⟩])
  (.seq (.seq (.reg [⟨some 12, Op.call { callee := Callee.value (Operand.func 6), args := #[], argTypes := #[] }, none⟩,
    ⟨some 13, Op.unOp UnOp.not 4 (Operand.tmp 12), none⟩,
    ⟨some 14, Op.move (Operand.tmp 13), none⟩,
    ⟨some 15, Op.load 23 (Operand.tmp 3), some (14, false)⟩,
    ⟨some 16, Op.call { callee := Callee.value (Operand.func 7), args := #[Operand.tmp 15], argTypes := #[23] }, some (14, false)⟩,
    ⟨some 17, Op.unOp UnOp.not 4 (Operand.tmp 16), some (14, false)⟩,
    ⟨some 18, Op.pick (Operand.tmp 14) (Operand.const (Value.bool true)) (Operand.tmp 17), none⟩,
    ⟨some 19, Op.move (Operand.tmp 18), none⟩,
    ⟨some 20, Op.load 26 (Operand.tmp 4), some (19, false)⟩,
    ⟨some 21, Op.call { callee := Callee.value (Operand.func 8), args := #[Operand.tmp 20], argTypes := #[26] }, some (19, false)⟩,
    ⟨some 22, Op.unOp UnOp.not 4 (Operand.tmp 21), some (19, false)⟩,
    ⟨some 23, Op.pick (Operand.tmp 19) (Operand.const (Value.bool true)) (Operand.tmp 22), none⟩,
    ⟨some 24, Op.move (Operand.tmp 23), none⟩,
    ⟨some 25, Op.fieldAddr 26 (Operand.tmp 4) 0, some (24, false)⟩,
    ⟨some 26, Op.load 24 (Operand.tmp 25), some (24, false)⟩,
    ⟨some 27, Op.call { callee := Callee.builtin Builtin.len, args := #[Operand.tmp 26], argTypes := #[24] }, some (24, false)⟩,
    ⟨some 28, Op.binOp BinOp.gtr 3 (Operand.tmp 27) (Operand.const (Value.int IntKind.i64 20)) 3, some (24, false)⟩,
    ⟨some 29, Op.pick (Operand.tmp 24) (Operand.const (Value.bool true)) (Operand.tmp 28), none⟩])
  (.cond (Operand.tmp 29) (.seq (.reg [⟨some 30, Op.call { callee := Callee.value (Operand.func 6), args := #[], argTypes := #[] }, none⟩,
    ⟨some 6, Op.assign (Operand.tmp 30), none⟩])
  .ret)
  .skip))
  (.seq (.reg [⟨some 32, Op.load 23 (Operand.tmp 3), none⟩,
    ⟨some 33, Op.load 26 (Operand.tmp 4), none⟩,
    ⟨some 34, Op.call { callee := Callee.value (Operand.func 9), args := #[Operand.tmp 32, Operand.tmp 33], argTypes := #[23, 26] }, none⟩,
    ⟨some 31, Op.move (Operand.tmp 34), none⟩,
    ⟨some 35, Op.extract (Operand.tmp 31) 0, none⟩,
    ⟨some 36, Op.extract (Operand.tmp 31) 1, none⟩,
    ⟨some 7, Op.assign (Operand.tmp 35), none⟩,
    ⟨some 8, Op.assign (Operand.tmp 36), none⟩])
  (.seq (.reg [⟨some 37, Op.load 23 (Operand.tmp 3), none⟩,
    ⟨some 9, Op.alloc 23, none⟩,
    ⟨none, Op.store 23 (Operand.tmp 9) (Operand.tmp 37), none⟩])
  (.seq (.reg [⟨some 38, Op.fieldAddr 23 (Operand.tmp 3) 2, none⟩,
    ⟨some 39, Op.load 3 (Operand.tmp 38), none⟩,
    ⟨some 40, Op.indexAddr 27 (Operand.tmp 5) (Operand.const (Value.int IntKind.i64 0)), none⟩,
    ⟨some 41, Op.load 5 (Operand.tmp 40), none⟩,
    ⟨some 42, Op.binOp BinOp.rem 5 (Operand.tmp 41) (Operand.const (Value.int IntKind.u8 3)) 5, none⟩,
    ⟨some 43, Op.convert 5 3 (Operand.tmp 42), none⟩,
    ⟨some 44, Op.binOp BinOp.sub 3 (Operand.tmp 39) (Operand.tmp 43) 3, none⟩,
    ⟨some 45, Op.call { callee := Callee.builtin Builtin.max, args := #[Operand.const (Value.int IntKind.i64 0), Operand.tmp 44], argTypes := #[3, 3] }, none⟩,
    ⟨some 46, Op.fieldAddr 23 (Operand.tmp 9) 2, none⟩,
    ⟨none, Op.store 3 (Operand.tmp 46) (Operand.tmp 45), none⟩])
  (.seq (.reg [⟨some 47, Op.fieldAddr 23 (Operand.tmp 3) 3, none⟩,
    ⟨some 48, Op.load 3 (Operand.tmp 47), none⟩,
    ⟨some 49, Op.indexAddr 27 (Operand.tmp 5) (Operand.const (Value.int IntKind.i64 1)), none⟩,
    ⟨some 50, Op.load 5 (Operand.tmp 49), none⟩,
    ⟨some 51, Op.binOp BinOp.rem 5 (Operand.tmp 50) (Operand.const (Value.int IntKind.u8 3)) 5, none⟩,
    ⟨some 52, Op.convert 5 3 (Operand.tmp 51), none⟩,
    ⟨some 53, Op.binOp BinOp.add 3 (Operand.tmp 48) (Operand.tmp 52) 3, none⟩,
    ⟨some 54, Op.call { callee := Callee.builtin Builtin.min, args := #[Operand.const (Value.int IntKind.i64 30), Operand.tmp 53], argTypes := #[3, 3] }, none⟩,
    ⟨some 55, Op.fieldAddr 23 (Operand.tmp 9) 3, none⟩,
    ⟨none, Op.store 3 (Operand.tmp 55) (Operand.tmp 54), none⟩])
  (.seq (.seq (.reg [⟨some 56, Op.indexAddr 27 (Operand.tmp 5) (Operand.const (Value.int IntKind.i64 1)), none⟩,
    ⟨some 57, Op.load 5 (Operand.tmp 56), none⟩,
    ⟨some 58, Op.binOp BinOp.rem 5 (Operand.tmp 57) (Operand.const (Value.int IntKind.u8 2)) 5, none⟩,
    ⟨some 59, Op.binOp BinOp.eql 5 (Operand.tmp 58) (Operand.const (Value.int IntKind.u8 1)) 5, none⟩])
  (.cond (Operand.tmp 59) (.reg [⟨some 60, Op.fieldAddr 23 (Operand.tmp 9) 4, none⟩,
    ⟨none, Op.store 9 (Operand.tmp 60) (Operand.const (Value.string { data := #[] })), none⟩])
  .skip))
  (.seq (.reg [⟨some 62, Op.load 23 (Operand.tmp 9), none⟩,
    ⟨some 63, Op.load 26 (Operand.tmp 4), none⟩,
    ⟨some 64, Op.call { callee := Callee.value (Operand.func 9), args := #[Operand.tmp 62, Operand.tmp 63], argTypes := #[23, 26] }, none⟩,
    ⟨some 61, Op.move (Operand.tmp 64), none⟩,
    ⟨some 65, Op.extract (Operand.tmp 61) 0, none⟩,
    ⟨some 66, Op.extract (Operand.tmp 61) 1, none⟩,
    ⟨some 10, Op.alloc 31, none⟩,
    ⟨none, Op.store 31 (Operand.tmp 10) (Operand.tmp 65), none⟩,
    ⟨some 11, Op.assign (Operand.tmp 66), none⟩])
  (.seq (.seq (.reg [⟨some 67, Op.move (Operand.tmp 8), none⟩,
    ⟨some 68, Op.binOp BinOp.neq 32 (Operand.tmp 67) (Operand.const (Value.int IntKind.i64 0)) 32, none⟩,
    ⟨some 69, Op.move (Operand.tmp 68), none⟩,
    ⟨some 70, Op.move (Operand.tmp 11), some (69, false)⟩,
    ⟨some 71, Op.binOp BinOp.eql 32 (Operand.tmp 70) (Operand.const (Value.int IntKind.i64 3)) 32, some (69, false)⟩,
    ⟨some 72, Op.pick (Operand.tmp 69) (Operand.const (Value.bool true)) (Operand.tmp 71), none⟩])
  (.cond (Operand.tmp 72) (.seq (.reg [⟨some 6, Op.assign (Operand.const (Value.bool true)), none⟩])
  .ret)
  .skip))
  (.seq (.reg [⟨some 73, Op.move (Operand.tmp 11), none⟩,
    ⟨some 74, Op.binOp BinOp.eql 32 (Operand.tmp 73) (Operand.const (Value.int IntKind.i64 0)) 32, none⟩,
    ⟨some 75, Op.move (Operand.tmp 74), none⟩,
    ⟨some 76, Op.move (Operand.tmp 7), some (75, true)⟩,
    ⟨some 77, Op.makeFunc (Fn.func 11) #[] #[Operand.tmp 10], some (75, true)⟩,
    ⟨some 78, Op.call { callee := Callee.value (Operand.func 10), args := #[Operand.tmp 76, Operand.tmp 77], argTypes := #[31, 37] }, some (75, true)⟩,
    ⟨some 79, Op.unOp UnOp.not 4 (Operand.tmp 78), some (75, true)⟩,
    ⟨some 80, Op.pick (Operand.tmp 75) (Operand.tmp 79) (Operand.const (Value.bool false)), none⟩,
    ⟨some 6, Op.assign (Operand.tmp 80), none⟩])
  .ret))))))))))
theorem low3 : Try.f3.body.bind low = some L3 := by kernel_rfl
theorem callm3 {k : Nat} {args : List AV} {H : List AO} {R : AV → List AO → Prop} (h : MX Try.prog k L3 (endM Try.prog k [ResultVar.tmp 6] R) (args ++ List.replicate (81 - args.length) (.v undef)) H) : AFn Try.prog 3 k args H R :=
  AFn_of_MW Try.func3 low3 (by decide) rfl rfl (MX_ok h)
theorem callp3 {args : List AV} {r : AV} (h : MX Try.prog 0 L3 (endM Try.prog 0 [ResultVar.tmp 6] (fun v Ho => v = r ∧ Ho = [])) (args ++ List.replicate (81 - args.length) (.v undef)) []) : APure Try.prog 3 args r := APure_of (callm3 h)
noncomputable def d4_3 : Array Oper := drawOps Try.f4 3
def l4_3 : List LOp := [⟨some 27, Op.load 23 (Operand.tmp 2), none⟩,
    ⟨some 28, Op.move (Operand.tmp 1), none⟩,
    ⟨some 29, Op.call { callee := Callee.value (Operand.func 17), args := #[Operand.tmp 28], argTypes := #[24] }, none⟩,
    ⟨some 30, Op.call { callee := Callee.value (Operand.func 16), args := #[Operand.tmp 27, Operand.tmp 29], argTypes := #[23, 24] }, none⟩,
    ⟨some 26, Op.move (Operand.tmp 30), none⟩,
    ⟨some 31, Op.extract (Operand.tmp 26) 0, none⟩,
    ⟨some 32, Op.extract (Operand.tmp 26) 1, none⟩,
    ⟨some 5, Op.assign (Operand.tmp 31), none⟩,
    ⟨some 6, Op.assign (Operand.tmp 32), none⟩]
theorem dl4_3 : lowOps d4_3 d4_3.toList = some l4_3 := by kernel_rfl
theorem dx4_3 : lexOK d4_3.toList = true := by kernel_rfl
noncomputable def L4 : LC := (.seq (.reg [⟨some 2, Op.box 23 (Operand.tmp 0), none⟩,
    ⟨some 4, Op.assign (Operand.const (Value.bool false)), none⟩])
  (.seq (.seq (.reg [⟨some 9, Op.call { callee := Callee.value (Operand.func 6), args := #[], argTypes := #[] }, none⟩,
    ⟨some 10, Op.unOp UnOp.not 4 (Operand.tmp 9), none⟩,
    ⟨some 11, Op.move (Operand.tmp 10), none⟩,
    ⟨some 12, Op.load 23 (Operand.tmp 2), some (11, false)⟩,
    ⟨some 13, Op.call { callee := Callee.value (Operand.func 7), args := #[Operand.tmp 12], argTypes := #[23] }, some (11, false)⟩,
    ⟨some 14, Op.unOp UnOp.not 4 (Operand.tmp 13), some (11, false)⟩,
    ⟨some 15, Op.pick (Operand.tmp 11) (Operand.const (Value.bool true)) (Operand.tmp 14), none⟩,
    ⟨some 16, Op.move (Operand.tmp 15), none⟩,
    ⟨some 17, Op.move (Operand.tmp 1), some (16, false)⟩,
    ⟨some 18, Op.call { callee := Callee.builtin Builtin.len, args := #[Operand.tmp 17], argTypes := #[24] }, some (16, false)⟩,
    ⟨some 19, Op.binOp BinOp.gtr 3 (Operand.tmp 18) (Operand.const (Value.int IntKind.i64 5)) 3, some (16, false)⟩,
    ⟨some 20, Op.pick (Operand.tmp 16) (Operand.const (Value.bool true)) (Operand.tmp 19), none⟩,
    ⟨some 21, Op.move (Operand.tmp 20), none⟩,
    ⟨some 22, Op.move (Operand.tmp 1), some (21, false)⟩,
    ⟨some 23, Op.call { callee := Callee.value (Operand.func 14), args := #[Operand.tmp 22, Operand.func 15], argTypes := #[24, 40] }, some (21, false)⟩,
    ⟨some 24, Op.pick (Operand.tmp 21) (Operand.const (Value.bool true)) (Operand.tmp 23), none⟩])
  (.cond (Operand.tmp 24) (.seq (.reg [⟨some 25, Op.call { callee := Callee.value (Operand.func 6), args := #[], argTypes := #[] }, none⟩,
    ⟨some 4, Op.assign (Operand.tmp 25), none⟩])
  .ret)
  .skip))
  (.seq (.draw 3 d4_3)
  (.seq (.reg [⟨some 34, Op.load 23 (Operand.tmp 2), none⟩,
    ⟨some 35, Op.move (Operand.tmp 1), none⟩,
    ⟨some 36, Op.call { callee := Callee.value (Operand.func 18), args := #[Operand.tmp 34, Operand.tmp 35], argTypes := #[23, 24] }, none⟩,
    ⟨some 33, Op.move (Operand.tmp 36), none⟩,
    ⟨some 37, Op.extract (Operand.tmp 33) 0, none⟩,
    ⟨some 38, Op.extract (Operand.tmp 33) 1, none⟩,
    ⟨some 7, Op.assign (Operand.tmp 37), none⟩,
    ⟨some 8, Op.assign (Operand.tmp 38), none⟩])
  (.seq (.reg [⟨some 39, Op.move (Operand.tmp 5), none⟩,
    ⟨some 40, Op.move (Operand.tmp 7), none⟩,
    ⟨some 41, Op.binOp BinOp.eql 9 (Operand.tmp 39) (Operand.tmp 40) 9, none⟩,
    ⟨some 42, Op.move (Operand.tmp 41), none⟩,
    ⟨some 43, Op.move (Operand.tmp 6), some (42, true)⟩,
    ⟨some 44, Op.move (Operand.tmp 8), some (42, true)⟩,
    ⟨some 45, Op.binOp BinOp.eql 32 (Operand.tmp 43) (Operand.tmp 44) 32, some (42, true)⟩,
    ⟨some 46, Op.pick (Operand.tmp 42) (Operand.tmp 45) (Operand.const (Value.bool false)), none⟩,
    ⟨some 4, Op.assign (Operand.tmp 46), none⟩])
  .ret)))))
theorem low4 : Try.f4.body.bind low = some L4 := by kernel_rfl
theorem call4 {args : List AV} {H : List AO} {R : AV → List AO → Prop} (h : LW Try.prog L4 (endL Try.prog [ResultVar.tmp 4] R) (args ++ List.replicate (47 - args.length) (.v undef)) H) : ACall Try.prog 4 args H R :=
  ACall_of_LW Try.func4 low4 (by decide) rfl rfl h
noncomputable def d5_3 : Array Oper := drawOps Try.f5 3
def l5_3 : List LOp := [⟨some 38, Op.load 23 (Operand.tmp 2), none⟩,
    ⟨some 39, Op.fieldAddr 26 (Operand.tmp 3) 0, none⟩,
    ⟨some 40, Op.load 24 (Operand.tmp 39), none⟩,
    ⟨some 41, Op.call { callee := Callee.value (Operand.func 17), args := #[Operand.tmp 40], argTypes := #[24] }, none⟩,
    ⟨some 42, Op.build 26 #[(0, Operand.tmp 41)], none⟩,
    ⟨some 43, Op.call { callee := Callee.value (Operand.func 9), args := #[Operand.tmp 38, Operand.tmp 42], argTypes := #[23, 26] }, none⟩,
    ⟨some 37, Op.move (Operand.tmp 43), none⟩,
    ⟨some 44, Op.extract (Operand.tmp 37) 0, none⟩,
    ⟨some 45, Op.extract (Operand.tmp 37) 1, none⟩,
    ⟨some 5, Op.assign (Operand.tmp 44), none⟩,
    ⟨some 6, Op.assign (Operand.tmp 45), none⟩]
theorem dl5_3 : lowOps d5_3 d5_3.toList = some l5_3 := by kernel_rfl
theorem dx5_3 : lexOK d5_3.toList = true := by kernel_rfl
def an5_3 : List (List Nat) := [[], [], [1], [1, 2], [1, 2, 3], [0, 1, 2, 3, 4], [0, 1, 2, 3, 4, 5], [0, 1, 2, 3, 4, 5, 6], [0, 1, 2, 3, 4, 5, 6], [0, 1, 2, 3, 4, 5, 6, 7], [0, 1, 2, 3, 4, 5, 6, 7, 8, 9]]
theorem ax5_3 : ancOK d5_3.toList an5_3 = true := by kernel_rfl
noncomputable def L5_b0 : LC := (.seq (.reg [⟨some 64, Op.binOp BinOp.lss 3 (Operand.tmp 63) (Operand.tmp 62) 3, none⟩])
  (.seq (.cond (Operand.tmp 64) .skip
  (.exit 0))
  (.seq (.block 1 (.seq (.reg [⟨some 65, Op.move (Operand.tmp 63), none⟩,
    ⟨some 66, Op.indexAddr 31 (Operand.tmp 61) (Operand.tmp 63), none⟩,
    ⟨some 67, Op.load 24 (Operand.tmp 66), none⟩,
    ⟨some 9, Op.assign (Operand.tmp 65), none⟩,
    ⟨some 10, Op.assign (Operand.tmp 67), none⟩])
  (.seq (.seq (.reg [⟨some 68, Op.move (Operand.tmp 9), none⟩,
    ⟨some 69, Op.binOp BinOp.eql 3 (Operand.tmp 68) (Operand.const (Value.int IntKind.i64 20)) 3, none⟩])
  (.cond (Operand.tmp 69) (.exit 0)
  .skip))
  (.seq (.reg [⟨some 71, Op.load 23 (Operand.tmp 2), none⟩,
    ⟨some 72, Op.move (Operand.tmp 10), none⟩,
    ⟨some 73, Op.call { callee := Callee.value (Operand.func 16), args := #[Operand.tmp 71, Operand.tmp 72], argTypes := #[23, 24] }, none⟩,
    ⟨some 70, Op.move (Operand.tmp 73), none⟩,
    ⟨some 74, Op.extract (Operand.tmp 70) 0, none⟩,
    ⟨some 75, Op.extract (Operand.tmp 70) 1, none⟩,
    ⟨some 11, Op.assign (Operand.tmp 74), none⟩,
    ⟨some 12, Op.assign (Operand.tmp 75), none⟩])
  (.seq (.reg [⟨some 76, Op.move (Operand.tmp 12), none⟩,
    ⟨some 77, Op.binOp BinOp.neq 32 (Operand.tmp 76) (Operand.const (Value.int IntKind.i64 0)) 32, none⟩,
    ⟨some 78, Op.move (Operand.tmp 77), none⟩,
    ⟨some 79, Op.move (Operand.tmp 12), some (78, true)⟩,
    ⟨some 80, Op.binOp BinOp.neq 32 (Operand.tmp 79) (Operand.const (Value.int IntKind.i64 3)) 32, some (78, true)⟩,
    ⟨some 81, Op.pick (Operand.tmp 78) (Operand.tmp 80) (Operand.const (Value.bool false)), none⟩,
    ⟨some 82, Op.move (Operand.tmp 81), none⟩,
    ⟨some 83, Op.move (Operand.tmp 12), some (82, true)⟩,
    ⟨some 84, Op.binOp BinOp.neq 32 (Operand.tmp 83) (Operand.const (Value.int IntKind.i64 2)) 32, some (82, true)⟩,
    ⟨some 85, Op.pick (Operand.tmp 82) (Operand.tmp 84) (Operand.const (Value.bool false)), none⟩])
  (.cond (Operand.tmp 85) (.seq (.reg [⟨some 4, Op.assign (Operand.const (Value.bool false)), none⟩])
  .ret)
  .skip))))))
  (.reg [⟨some 86, Op.binOp BinOp.add 3 (Operand.tmp 63) (Operand.const (Value.int IntKind.i64 1)) 3, none⟩,
    ⟨some 63, Op.move (Operand.tmp 86), none⟩]))))
noncomputable def L5 : LC := (.seq (.reg [⟨some 2, Op.box 23 (Operand.tmp 0), none⟩,
    ⟨some 3, Op.box 26 (Operand.tmp 1), none⟩,
    ⟨some 4, Op.assign (Operand.const (Value.bool false)), none⟩])
  (.seq (.seq (.reg [⟨some 13, Op.call { callee := Callee.value (Operand.func 6), args := #[], argTypes := #[] }, none⟩,
    ⟨some 14, Op.unOp UnOp.not 4 (Operand.tmp 13), none⟩,
    ⟨some 15, Op.move (Operand.tmp 14), none⟩,
    ⟨some 16, Op.load 23 (Operand.tmp 2), some (15, false)⟩,
    ⟨some 17, Op.call { callee := Callee.value (Operand.func 7), args := #[Operand.tmp 16], argTypes := #[23] }, some (15, false)⟩,
    ⟨some 18, Op.unOp UnOp.not 4 (Operand.tmp 17), some (15, false)⟩,
    ⟨some 19, Op.pick (Operand.tmp 15) (Operand.const (Value.bool true)) (Operand.tmp 18), none⟩,
    ⟨some 20, Op.move (Operand.tmp 19), none⟩,
    ⟨some 21, Op.load 26 (Operand.tmp 3), some (20, false)⟩,
    ⟨some 22, Op.call { callee := Callee.value (Operand.func 8), args := #[Operand.tmp 21], argTypes := #[26] }, some (20, false)⟩,
    ⟨some 23, Op.unOp UnOp.not 4 (Operand.tmp 22), some (20, false)⟩,
    ⟨some 24, Op.pick (Operand.tmp 20) (Operand.const (Value.bool true)) (Operand.tmp 23), none⟩,
    ⟨some 25, Op.move (Operand.tmp 24), none⟩,
    ⟨some 26, Op.fieldAddr 26 (Operand.tmp 3) 0, some (25, false)⟩,
    ⟨some 27, Op.load 24 (Operand.tmp 26), some (25, false)⟩,
    ⟨some 28, Op.call { callee := Callee.builtin Builtin.len, args := #[Operand.tmp 27], argTypes := #[24] }, some (25, false)⟩,
    ⟨some 29, Op.binOp BinOp.gtr 3 (Operand.tmp 28) (Operand.const (Value.int IntKind.i64 20)) 3, some (25, false)⟩,
    ⟨some 30, Op.move (Operand.tmp 29), some (25, false)⟩,
    ⟨some 31, Op.load 26 (Operand.tmp 3), some (30, true)⟩,
    ⟨some 32, Op.call { callee := Callee.value (Operand.func 19), args := #[Operand.tmp 31], argTypes := #[26] }, some (30, true)⟩,
    ⟨some 33, Op.binOp BinOp.eql 32 (Operand.tmp 32) (Operand.const (Value.int IntKind.i64 0)) 32, some (30, true)⟩,
    ⟨some 34, Op.pick (Operand.tmp 30) (Operand.tmp 33) (Operand.const (Value.bool false)), some (25, false)⟩,
    ⟨some 35, Op.pick (Operand.tmp 25) (Operand.const (Value.bool true)) (Operand.tmp 34), none⟩])
  (.cond (Operand.tmp 35) (.seq (.reg [⟨some 36, Op.call { callee := Callee.value (Operand.func 6), args := #[], argTypes := #[] }, none⟩,
    ⟨some 4, Op.assign (Operand.tmp 36), none⟩])
  .ret)
  .skip))
  (.seq (.draw 3 d5_3)
  (.seq (.reg [⟨some 47, Op.load 23 (Operand.tmp 2), none⟩,
    ⟨some 48, Op.load 26 (Operand.tmp 3), none⟩,
    ⟨some 49, Op.call { callee := Callee.value (Operand.func 20), args := #[Operand.tmp 47, Operand.tmp 48], argTypes := #[23, 26] }, none⟩,
    ⟨some 46, Op.move (Operand.tmp 49), none⟩,
    ⟨some 50, Op.extract (Operand.tmp 46) 0, none⟩,
    ⟨some 51, Op.extract (Operand.tmp 46) 1, none⟩,
    ⟨some 7, Op.assign (Operand.tmp 50), none⟩,
    ⟨some 8, Op.assign (Operand.tmp 51), none⟩])
  (.seq (.seq (.reg [⟨some 52, Op.move (Operand.tmp 6), none⟩,
    ⟨some 53, Op.move (Operand.tmp 8), none⟩,
    ⟨some 54, Op.binOp BinOp.neq 32 (Operand.tmp 52) (Operand.tmp 53) 32, none⟩,
    ⟨some 55, Op.move (Operand.tmp 54), none⟩,
    ⟨some 56, Op.move (Operand.tmp 5), some (55, false)⟩,
    ⟨some 57, Op.move (Operand.tmp 7), some (55, false)⟩,
    ⟨some 58, Op.call { callee := Callee.value (Operand.func 21), args := #[Operand.tmp 56, Operand.tmp 57], argTypes := #[31, 31] }, some (55, false)⟩,
    ⟨some 59, Op.unOp UnOp.not 4 (Operand.tmp 58), some (55, false)⟩,
    ⟨some 60, Op.pick (Operand.tmp 55) (Operand.const (Value.bool true)) (Operand.tmp 59), none⟩])
  (.cond (Operand.tmp 60) (.seq (.reg [⟨some 4, Op.assign (Operand.const (Value.bool false)), none⟩])
  .ret)
  .skip))
  (.seq (.seq (.reg [⟨some 61, Op.move (Operand.tmp 5), none⟩,
    ⟨some 62, Op.call { callee := Callee.builtin Builtin.len, args := #[Operand.tmp 61], argTypes := #[31] }, none⟩,
    ⟨some 63, Op.move (Operand.const (Value.int IntKind.i64 0)), none⟩])
  (.block 0 (.loop L5_b0)))
  (.seq (.reg [⟨some 4, Op.assign (Operand.const (Value.bool true)), none⟩])
  .ret)))))))
theorem low5 : Try.f5.body.bind low = some L5 := by kernel_rfl
theorem callm5 {k : Nat} {args : List AV} {H : List AO} {R : AV → List AO → Prop} (h : MX Try.prog k L5 (endM Try.prog k [ResultVar.tmp 4] R) (args ++ List.replicate (87 - args.length) (.v undef)) H) : AFn Try.prog 5 k args H R :=
  AFn_of_MW Try.func5 low5 (by decide) rfl rfl (MX_ok h)
theorem callp5 {args : List AV} {r : AV} (h : MX Try.prog 0 L5 (endM Try.prog 0 [ResultVar.tmp 4] (fun v Ho => v = r ∧ Ho = [])) (args ++ List.replicate (87 - args.length) (.v undef)) []) : APure Try.prog 5 args r := APure_of (callm5 h)
noncomputable def L6 : LC := (.seq (.reg [⟨some 0, Op.assign (Operand.const (Value.bool false)), none⟩])
  (.seq (.reg [⟨some 6, Op.call { callee := Callee.value (Operand.func 22), args := #[Operand.const (Value.string { data := #[97, 114, 109, 97, 32, 60, 51, 45, 52, 32, 118, 42, 62] })], argTypes := #[9] }, none⟩,
    ⟨some 5, Op.move (Operand.tmp 6), none⟩,
    ⟨some 7, Op.extract (Operand.tmp 5) 0, none⟩,
    ⟨some 8, Op.extract (Operand.tmp 5) 1, none⟩,
    ⟨some 1, Op.alloc 23, none⟩,
    ⟨none, Op.store 23 (Operand.tmp 1) (Operand.tmp 7), none⟩,
    ⟨some 2, Op.assign (Operand.tmp 8), none⟩])
  (.seq (.reg [⟨some 10, Op.load 23 (Operand.tmp 1), none⟩,
    ⟨some 11, Op.buildSlice 24 4 #[(0, Operand.const (Value.string { data := #[101, 116] })), (1, Operand.const (Value.string { data := #[110, 111, 110] })), (2, Operand.const (Value.string { data := #[118, 105, 114] })), (3, Operand.const (Value.string { data := #[118, 105, 114, 111] }))], none⟩,
    ⟨some 12, Op.build 26 #[(0, Operand.tmp 11)], none⟩,
    ⟨some 13, Op.call { callee := Callee.value (Operand.func 9), args := #[Operand.tmp 10, Operand.tmp 12], argTypes := #[23, 26] }, none⟩,
    ⟨some 9, Op.move (Operand.tmp 13), none⟩,
    ⟨some 14, Op.extract (Operand.tmp 9) 0, none⟩,
    ⟨some 15, Op.extract (Operand.tmp 9) 1, none⟩,
    ⟨some 3, Op.assign (Operand.tmp 14), none⟩,
    ⟨some 4, Op.assign (Operand.tmp 15), none⟩])
  (.seq (.reg [⟨some 16, Op.move (Operand.tmp 2), none⟩,
    ⟨some 17, Op.binOp BinOp.eql 32 (Operand.tmp 16) (Operand.const (Value.int IntKind.i64 0)) 32, none⟩,
    ⟨some 18, Op.move (Operand.tmp 17), none⟩,
    ⟨some 19, Op.fieldAddr 23 (Operand.tmp 1) 0, some (18, true)⟩,
    ⟨some 20, Op.load 9 (Operand.tmp 19), some (18, true)⟩,
    ⟨some 21, Op.binOp BinOp.eql 9 (Operand.tmp 20) (Operand.const (Value.string { data := #[97, 114, 109, 97, 32] })) 9, some (18, true)⟩,
    ⟨some 22, Op.pick (Operand.tmp 18) (Operand.tmp 21) (Operand.const (Value.bool false)), none⟩,
    ⟨some 23, Op.move (Operand.tmp 22), none⟩,
    ⟨some 24, Op.fieldAddr 23 (Operand.tmp 1) 2, some (23, true)⟩,
    ⟨some 25, Op.load 3 (Operand.tmp 24), some (23, true)⟩,
    ⟨some 26, Op.binOp BinOp.eql 3 (Operand.tmp 25) (Operand.const (Value.int IntKind.i64 3)) 3, some (23, true)⟩,
    ⟨some 27, Op.pick (Operand.tmp 23) (Operand.tmp 26) (Operand.const (Value.bool false)), none⟩,
    ⟨some 28, Op.move (Operand.tmp 27), none⟩,
    ⟨some 29, Op.fieldAddr 23 (Operand.tmp 1) 3, some (28, true)⟩,
    ⟨some 30, Op.load 3 (Operand.tmp 29), some (28, true)⟩,
    ⟨some 31, Op.binOp BinOp.eql 3 (Operand.tmp 30) (Operand.const (Value.int IntKind.i64 4)) 3, some (28, true)⟩,
    ⟨some 32, Op.pick (Operand.tmp 28) (Operand.tmp 31) (Operand.const (Value.bool false)), none⟩,
    ⟨some 33, Op.move (Operand.tmp 32), none⟩,
    ⟨some 34, Op.fieldAddr 23 (Operand.tmp 1) 4, some (33, true)⟩,
    ⟨some 35, Op.load 9 (Operand.tmp 34), some (33, true)⟩,
    ⟨some 36, Op.binOp BinOp.eql 9 (Operand.tmp 35) (Operand.const (Value.string { data := #[118, 42] })) 9, some (33, true)⟩,
    ⟨some 37, Op.pick (Operand.tmp 33) (Operand.tmp 36) (Operand.const (Value.bool false)), none⟩,
    ⟨some 38, Op.move (Operand.tmp 37), none⟩,
    ⟨some 39, Op.move (Operand.tmp 4), some (38, true)⟩,
    ⟨some 40, Op.binOp BinOp.eql 32 (Operand.tmp 39) (Operand.const (Value.int IntKind.i64 0)) 32, some (38, true)⟩,
    ⟨some 41, Op.pick (Operand.tmp 38) (Operand.tmp 40) (Operand.const (Value.bool false)), none⟩,
    ⟨some 42, Op.move (Operand.tmp 41), none⟩,
    ⟨some 43, Op.move (Operand.tmp 3), some (42, true)⟩,
    ⟨some 44, Op.buildSlice 24 1 #[(0, Operand.const (Value.string { data := #[118, 105, 114] }))], some (42, true)⟩,
    ⟨some 45, Op.buildSlice 24 1 #[(0, Operand.const (Value.string { data := #[118, 105, 114, 111] }))], some (42, true)⟩,
    ⟨some 46, Op.buildSlice 31 2 #[(0, Operand.tmp 44), (1, Operand.tmp 45)], some (42, true)⟩,
    ⟨some 47, Op.call { callee := Callee.value (Operand.func 21), args := #[Operand.tmp 43, Operand.tmp 46], argTypes := #[31, 31] }, some (42, true)⟩,
    ⟨some 48, Op.pick (Operand.tmp 42) (Operand.tmp 47) (Operand.const (Value.bool false)), none⟩,
    ⟨some 0, Op.assign (Operand.tmp 48), none⟩])
  .ret))))
theorem low6 : Try.f6.body.bind low = some L6 := by kernel_rfl
theorem callm6 {k : Nat} {args : List AV} {H : List AO} {R : AV → List AO → Prop} (h : MX Try.prog k L6 (endM Try.prog k [ResultVar.tmp 0] R) (args ++ List.replicate (49 - args.length) (.v undef)) H) : AFn Try.prog 6 k args H R :=
  AFn_of_MW Try.func6 low6 (by decide) rfl rfl (MX_ok h)
theorem callp6 {args : List AV} {r : AV} (h : MX Try.prog 0 L6 (endM Try.prog 0 [ResultVar.tmp 0] (fun v Ho => v = r ∧ Ho = [])) (args ++ List.replicate (49 - args.length) (.v undef)) []) : APure Try.prog 6 args r := APure_of (callm6 h)
noncomputable def L7 : LC := (.seq (.reg [⟨some 1, Op.box 23 (Operand.tmp 0), none⟩,
    ⟨some 2, Op.assign (Operand.const (Value.bool false)), none⟩])
  (.seq (.reg [⟨some 3, Op.fieldAddr 23 (Operand.tmp 1) 0, none⟩,
    ⟨some 4, Op.load 9 (Operand.tmp 3), none⟩,
    ⟨some 5, Op.call { callee := Callee.builtin Builtin.len, args := #[Operand.tmp 4], argTypes := #[9] }, none⟩,
    ⟨some 6, Op.binOp BinOp.leq 3 (Operand.tmp 5) (Operand.const (Value.int IntKind.i64 150)) 3, none⟩,
    ⟨some 7, Op.move (Operand.tmp 6), none⟩,
    ⟨some 8, Op.fieldAddr 23 (Operand.tmp 1) 1, some (7, true)⟩,
    ⟨some 9, Op.load 9 (Operand.tmp 8), some (7, true)⟩,
    ⟨some 10, Op.call { callee := Callee.builtin Builtin.len, args := #[Operand.tmp 9], argTypes := #[9] }, some (7, true)⟩,
    ⟨some 11, Op.binOp BinOp.leq 3 (Operand.tmp 10) (Operand.const (Value.int IntKind.i64 150)) 3, some (7, true)⟩,
    ⟨some 12, Op.pick (Operand.tmp 7) (Operand.tmp 11) (Operand.const (Value.bool false)), none⟩,
    ⟨some 13, Op.move (Operand.tmp 12), none⟩,
    ⟨some 14, Op.fieldAddr 23 (Operand.tmp 1) 4, some (13, true)⟩,
    ⟨some 15, Op.load 9 (Operand.tmp 14), some (13, true)⟩,
    ⟨some 16, Op.call { callee := Callee.builtin Builtin.len, args := #[Operand.tmp 15], argTypes := #[9] }, some (13, true)⟩,
    ⟨some 17, Op.binOp BinOp.leq 3 (Operand.tmp 16) (Operand.const (Value.int IntKind.i64 60)) 3, some (13, true)⟩,
    ⟨some 18, Op.pick (Operand.tmp 13) (Operand.tmp 17) (Operand.const (Value.bool false)), none⟩,
    ⟨some 2, Op.assign (Operand.tmp 18), none⟩])
  .ret))
theorem low7 : Try.f7.body.bind low = some L7 := by kernel_rfl
theorem call7 {args : List AV} {H : List AO} {R : AV → List AO → Prop} (h : LW Try.prog L7 (endL Try.prog [ResultVar.tmp 2] R) (args ++ List.replicate (19 - args.length) (.v undef)) H) : ACall Try.prog 7 args H R :=
  ACall_of_LW Try.func7 low7 (by decide) rfl rfl h
noncomputable def L8 : LC := (.seq (.reg [⟨some 1, Op.box 26 (Operand.tmp 0), none⟩,
    ⟨some 2, Op.assign (Operand.const (Value.bool false)), none⟩])
  (.seq (.reg [⟨some 3, Op.fieldAddr 26 (Operand.tmp 1) 0, none⟩,
    ⟨some 4, Op.load 24 (Operand.tmp 3), none⟩,
    ⟨some 5, Op.call { callee := Callee.builtin Builtin.len, args := #[Operand.tmp 4], argTypes := #[24] }, none⟩,
    ⟨some 6, Op.binOp BinOp.leq 3 (Operand.tmp 5) (Operand.const (Value.int IntKind.i64 420)) 3, none⟩,
    ⟨some 7, Op.move (Operand.tmp 6), none⟩,
    ⟨some 8, Op.fieldAddr 26 (Operand.tmp 1) 0, some (7, true)⟩,
    ⟨some 9, Op.load 24 (Operand.tmp 8), some (7, true)⟩,
    ⟨some 10, Op.call { callee := Callee.value (Operand.func 23), args := #[Operand.tmp 9, Operand.const (Value.int IntKind.i64 8000)], argTypes := #[24, 3] }, some (7, true)⟩,
    ⟨some 11, Op.binOp BinOp.leq 3 (Operand.tmp 10) (Operand.const (Value.int IntKind.i64 8000)) 3, some (7, true)⟩,
    ⟨some 12, Op.pick (Operand.tmp 7) (Operand.tmp 11) (Operand.const (Value.bool false)), none⟩,
    ⟨some 2, Op.assign (Operand.tmp 12), none⟩])
  .ret))
theorem low8 : Try.f8.body.bind low = some L8 := by kernel_rfl
theorem callm8 {k : Nat} {args : List AV} {H : List AO} {R : AV → List AO → Prop} (h : MX Try.prog k L8 (endM Try.prog k [ResultVar.tmp 2] R) (args ++ List.replicate (13 - args.length) (.v undef)) H) : AFn Try.prog 8 k args H R :=
  AFn_of_MW Try.func8 low8 (by decide) rfl rfl (MX_ok h)
theorem callp8 {args : List AV} {r : AV} (h : MX Try.prog 0 L8 (endM Try.prog 0 [ResultVar.tmp 2] (fun v Ho => v = r ∧ Ho = [])) (args ++ List.replicate (13 - args.length) (.v undef)) []) : APure Try.prog 8 args r := APure_of (callm8 h)
noncomputable def L9_b0 : LC := (.seq (.reg [⟨some 26, Op.binOp BinOp.lss 3 (Operand.tmp 25) (Operand.const (Value.int IntKind.i64 4)) 3, none⟩])
  (.seq (.cond (Operand.tmp 26) .skip
  (.exit 0))
  (.seq (.block 1 (.seq (.reg [⟨some 27, Op.move (Operand.tmp 25), none⟩,
    ⟨some 9, Op.assign (Operand.tmp 27), none⟩])
  (.seq (.reg [⟨some 28, Op.move (Operand.tmp 8), none⟩,
    ⟨some 29, Op.move (Operand.tmp 9), none⟩,
    ⟨some 30, Op.call { callee := Callee.value (Operand.func 26), args := #[Operand.tmp 28, Operand.const (Value.slice none 0 0), Operand.tmp 29], argTypes := #[52, 24, 3] }, none⟩,
    ⟨some 31, Op.unOp UnOp.not 4 (Operand.tmp 30), none⟩])
  (.cond (Operand.tmp 31) (.seq (.reg [⟨some 4, Op.assign (Operand.const (Value.slice none 0 0)), none⟩,
    ⟨some 5, Op.assign (Operand.const (Value.int IntKind.i64 3)), none⟩])
  .ret)
  .skip))))
  (.reg [⟨some 32, Op.binOp BinOp.add 3 (Operand.tmp 25) (Operand.const (Value.int IntKind.i64 1)) 3, none⟩,
    ⟨some 25, Op.move (Operand.tmp 32), none⟩]))))
noncomputable def L9 : LC := (.seq (.reg [⟨some 2, Op.box 23 (Operand.tmp 0), none⟩,
    ⟨some 3, Op.box 26 (Operand.tmp 1), none⟩,
    ⟨some 4, Op.assign (Operand.const (Value.slice none 0 0)), none⟩,
    ⟨some 5, Op.assign (Operand.const (Value.int IntKind.i64 0)), none⟩])
  (.seq (.seq (.reg [⟨some 10, Op.load 23 (Operand.tmp 2), none⟩,
    ⟨some 11, Op.call { callee := Callee.value (Operand.func 24), args := #[Operand.tmp 10], argTypes := #[23] }, none⟩,
    ⟨some 6, Op.assign (Operand.tmp 11), none⟩])
  (.seq (.reg [⟨some 12, Op.move (Operand.tmp 6), none⟩,
    ⟨some 13, Op.binOp BinOp.neq 32 (Operand.tmp 12) (Operand.const (Value.int IntKind.i64 0)) 32, none⟩])
  (.cond (Operand.tmp 13) (.seq (.reg [⟨some 14, Op.move (Operand.tmp 6), none⟩,
    ⟨some 4, Op.assign (Operand.const (Value.slice none 0 0)), none⟩,
    ⟨some 5, Op.assign (Operand.tmp 14), none⟩])
  .ret)
  .skip)))
  (.seq (.seq (.reg [⟨some 15, Op.load 26 (Operand.tmp 3), none⟩,
    ⟨some 16, Op.call { callee := Callee.value (Operand.func 25), args := #[Operand.tmp 15], argTypes := #[26] }, none⟩,
    ⟨some 7, Op.assign (Operand.tmp 16), none⟩])
  (.seq (.reg [⟨some 17, Op.move (Operand.tmp 7), none⟩,
    ⟨some 18, Op.binOp BinOp.neq 32 (Operand.tmp 17) (Operand.const (Value.int IntKind.i64 0)) 32, none⟩])
  (.cond (Operand.tmp 18) (.seq (.reg [⟨some 19, Op.move (Operand.tmp 7), none⟩,
    ⟨some 4, Op.assign (Operand.const (Value.slice none 0 0)), none⟩,
    ⟨some 5, Op.assign (Operand.tmp 19), none⟩])
  .ret)
  .skip)))
  (.seq (.reg [⟨some 20, Op.load 23 (Operand.tmp 2), none⟩,
    ⟨some 21, Op.fieldAddr 26 (Operand.tmp 3) 0, none⟩,
    ⟨some 22, Op.load 24 (Operand.tmp 21), none⟩,
    ⟨some 23, Op.build 54 #[(0, Operand.tmp 20), (1, Operand.tmp 22)], none⟩,
    ⟨some 24, Op.box 54 (Operand.tmp 23), none⟩,
    ⟨some 8, Op.assign (Operand.tmp 24), none⟩])
  (.seq (.seq (.reg [⟨some 25, Op.move (Operand.const (Value.int IntKind.i64 0)), none⟩])
  (.block 0 (.loop L9_b0)))
  (.seq (.reg [⟨some 33, Op.move (Operand.tmp 8), none⟩,
    ⟨some 34, Op.nilCheck (Operand.tmp 33), none⟩,
    ⟨some 35, Op.fieldAddr 54 (Operand.tmp 34) 2, none⟩,
    ⟨some 36, Op.load 31 (Operand.tmp 35), none⟩,
    ⟨some 37, Op.makeFunc (Fn.func 28) #[] #[Operand.tmp 2], none⟩,
    ⟨some 38, Op.call { callee := Callee.value (Operand.func 27), args := #[Operand.tmp 36, Operand.tmp 37], argTypes := #[31, 37] }, none⟩,
    ⟨some 4, Op.assign (Operand.tmp 38), none⟩,
    ⟨some 5, Op.assign (Operand.const (Value.int IntKind.i64 0)), none⟩])
  .ret))))))
theorem low9 : Try.f9.body.bind low = some L9 := by kernel_rfl
theorem callm9 {k : Nat} {args : List AV} {H : List AO} {R : AV → List AO → Prop} (h : MX Try.prog k L9 (endM Try.prog k [ResultVar.tmp 4, ResultVar.tmp 5] R) (args ++ List.replicate (39 - args.length) (.v undef)) H) : AFn Try.prog 9 k args H R :=
  AFn_of_MW Try.func9 low9 (by decide) rfl rfl (MX_ok h)
noncomputable def L10 : LC := (.seq (.reg [⟨some 4, Op.assign (Operand.const (Value.bool false)), none⟩])
  (.seq (.reg [⟨some 5, Op.move (Operand.tmp 0), none⟩,
    ⟨some 6, Op.move (Operand.tmp 1), none⟩,
    ⟨some 7, Op.call { callee := Callee.value (Operand.func 30), args := #[Operand.tmp 5, Operand.tmp 6], argTypes := #[31, 37] }, none⟩,
    ⟨some 8, Op.binOp BinOp.geq 3 (Operand.tmp 7) (Operand.const (Value.int IntKind.i64 0)) 3, none⟩,
    ⟨some 4, Op.assign (Operand.tmp 8), none⟩])
  .ret))
theorem low10 : Try.f10.body.bind low = some L10 := by kernel_rfl
theorem callm10 {k : Nat} {args : List AV} {H : List AO} {R : AV → List AO → Prop} (h : MX Try.prog k L10 (endM Try.prog k [ResultVar.tmp 4] R) (args ++ List.replicate (9 - args.length) (.v undef)) H) : AFn Try.prog 10 k args H R :=
  AFn_of_MW Try.func10 low10 (by decide) rfl rfl (MX_ok h)
theorem callp10 {args : List AV} {r : AV} (h : MX Try.prog 0 L10 (endM Try.prog 0 [ResultVar.tmp 4] (fun v Ho => v = r ∧ Ho = [])) (args ++ List.replicate (9 - args.length) (.v undef)) []) : APure Try.prog 10 args r := APure_of (callm10 h)
noncomputable def L11 : LC := (.seq (.reg [⟨some 2, Op.box 24 (Operand.tmp 0), none⟩,
    ⟨some 3, Op.assign (Operand.const (Value.bool false)), none⟩])
  (.seq (.reg [⟨some 4, Op.load 31 (Operand.tmp 1), none⟩,
    ⟨some 5, Op.makeFunc (Fn.func 12) #[] #[Operand.tmp 2], none⟩,
    ⟨some 6, Op.call { callee := Callee.value (Operand.func 10), args := #[Operand.tmp 4, Operand.tmp 5], argTypes := #[31, 37] }, none⟩,
    ⟨some 7, Op.unOp UnOp.not 4 (Operand.tmp 6), none⟩,
    ⟨some 3, Op.assign (Operand.tmp 7), none⟩])
  .ret))
theorem low11 : Try.f11.body.bind low = some L11 := by kernel_rfl
theorem callm11 {k : Nat} {args : List AV} {H : List AO} {R : AV → List AO → Prop} (h : MX Try.prog k L11 (endM Try.prog k [ResultVar.tmp 3] R) (args ++ List.replicate (8 - args.length) (.v undef)) H) : AFn Try.prog 11 k args H R :=
  AFn_of_MW Try.func11 low11 (by decide) rfl rfl (MX_ok h)
theorem callp11 {args : List AV} {r : AV} (h : MX Try.prog 0 L11 (endM Try.prog 0 [ResultVar.tmp 3] (fun v Ho => v = r ∧ Ho = [])) (args ++ List.replicate (8 - args.length) (.v undef)) []) : APure Try.prog 11 args r := APure_of (callm11 h)
noncomputable def L12 : LC := (.seq (.reg [⟨some 3, Op.assign (Operand.const (Value.bool false)), none⟩])
  (.seq (.reg [⟨some 4, Op.load 24 (Operand.tmp 1), none⟩,
    ⟨some 5, Op.move (Operand.tmp 0), none⟩,
    ⟨some 6, Op.call { callee := Callee.value (Operand.func 13), args := #[Operand.tmp 4, Operand.tmp 5], argTypes := #[24, 24] }, none⟩,
    ⟨some 3, Op.assign (Operand.tmp 6), none⟩])
  .ret))
theorem low12 : Try.f12.body.bind low = some L12 := by kernel_rfl
theorem callm12 {k : Nat} {args : List AV} {H : List AO} {R : AV → List AO → Prop} (h : MX Try.prog k L12 (endM Try.prog k [ResultVar.tmp 3] R) (args ++ List.replicate (7 - args.length) (.v undef)) H) : AFn Try.prog 12 k args H R :=
  AFn_of_MW Try.func12 low12 (by decide) rfl rfl (MX_ok h)
theorem callp12 {args : List AV} {r : AV} (h : MX Try.prog 0 L12 (endM Try.prog 0 [ResultVar.tmp 3] (fun v Ho => v = r ∧ Ho = [])) (args ++ List.replicate (7 - args.length) (.v undef)) []) : APure Try.prog 12 args r := APure_of (callm12 h)
noncomputable def d13_6 : Array Oper := drawOps Try.f13 6
def l13_6 : List LOp := [⟨some 16, Op.move (Operand.tmp 0), none⟩,
    ⟨some 17, Op.move (Operand.tmp 5), none⟩,
    ⟨some 18, Op.indexAddr 24 (Operand.tmp 16) (Operand.tmp 17), none⟩,
    ⟨some 19, Op.load 9 (Operand.tmp 18), none⟩,
    ⟨some 20, Op.move (Operand.tmp 1), none⟩,
    ⟨some 21, Op.move (Operand.tmp 5), none⟩,
    ⟨some 22, Op.indexAddr 24 (Operand.tmp 20) (Operand.tmp 21), none⟩,
    ⟨some 23, Op.load 9 (Operand.tmp 22), none⟩,
    ⟨some 24, Op.binOp BinOp.neq 9 (Operand.tmp 19) (Operand.tmp 23) 9, none⟩]
theorem dl13_6 : lowOps d13_6 d13_6.toList = some l13_6 := by kernel_rfl
theorem dx13_6 : lexOK d13_6.toList = true := by kernel_rfl
noncomputable def L13_b0 : LC := (.seq (.reg [⟨some 14, Op.binOp BinOp.lss 3 (Operand.tmp 13) (Operand.tmp 12) 3, none⟩])
  (.seq (.cond (Operand.tmp 14) .skip
  (.exit 0))
  (.seq (.block 1 (.seq (.reg [⟨some 15, Op.move (Operand.tmp 13), none⟩,
    ⟨some 5, Op.assign (Operand.tmp 15), none⟩])
  (.seq (.draw 6 d13_6)
  (.cond (Operand.tmp 24) (.seq (.reg [⟨some 4, Op.assign (Operand.const (Value.bool false)), none⟩])
  .ret)
  .skip))))
  (.reg [⟨some 25, Op.binOp BinOp.add 3 (Operand.tmp 13) (Operand.const (Value.int IntKind.i64 1)) 3, none⟩,
    ⟨some 13, Op.move (Operand.tmp 25), none⟩]))))
noncomputable def L13 : LC := (.seq (.reg [⟨some 4, Op.assign (Operand.const (Value.bool false)), none⟩])
  (.seq (.seq (.reg [⟨some 6, Op.move (Operand.tmp 0), none⟩,
    ⟨some 7, Op.call { callee := Callee.builtin Builtin.len, args := #[Operand.tmp 6], argTypes := #[24] }, none⟩,
    ⟨some 8, Op.move (Operand.tmp 1), none⟩,
    ⟨some 9, Op.call { callee := Callee.builtin Builtin.len, args := #[Operand.tmp 8], argTypes := #[24] }, none⟩,
    ⟨some 10, Op.binOp BinOp.neq 3 (Operand.tmp 7) (Operand.tmp 9) 3, none⟩])
  (.cond (Operand.tmp 10) (.seq (.reg [⟨some 4, Op.assign (Operand.const (Value.bool false)), none⟩])
  .ret)
  .skip))
  (.seq (.seq (.reg [⟨some 11, Op.move (Operand.tmp 0), none⟩,
    ⟨some 12, Op.call { callee := Callee.builtin Builtin.len, args := #[Operand.tmp 11], argTypes := #[24] }, none⟩,
    ⟨some 13, Op.move (Operand.const (Value.int IntKind.i64 0)), none⟩])
  (.block 0 (.loop L13_b0)))
  (.seq (.reg [⟨some 4, Op.assign (Operand.const (Value.bool true)), none⟩])
  .ret))))
theorem low13 : Try.f13.body.bind low = some L13 := by kernel_rfl
theorem callm13 {k : Nat} {args : List AV} {H : List AO} {R : AV → List AO → Prop} (h : MX Try.prog k L13 (endM Try.prog k [ResultVar.tmp 4] R) (args ++ List.replicate (26 - args.length) (.v undef)) H) : AFn Try.prog 13 k args H R :=
  AFn_of_MW Try.func13 low13 (by decide) rfl rfl (MX_ok h)
theorem callp13 {args : List AV} {r : AV} (h : MX Try.prog 0 L13 (endM Try.prog 0 [ResultVar.tmp 4] (fun v Ho => v = r ∧ Ho = [])) (args ++ List.replicate (26 - args.length) (.v undef)) []) : APure Try.prog 13 args r := APure_of (callm13 h)
noncomputable def L14 : LC := (.seq (.reg [⟨some 4, Op.assign (Operand.const (Value.bool false)), none⟩])
  (.seq (.reg [⟨some 5, Op.move (Operand.tmp 0), none⟩,
    ⟨some 6, Op.move (Operand.tmp 1), none⟩,
    ⟨some 7, Op.call { callee := Callee.value (Operand.func 31), args := #[Operand.tmp 5, Operand.tmp 6], argTypes := #[24, 40] }, none⟩,
    ⟨some 8, Op.binOp BinOp.geq 3 (Operand.tmp 7) (Operand.const (Value.int IntKind.i64 0)) 3, none⟩,
    ⟨some 4, Op.assign (Operand.tmp 8), none⟩])
  .ret))
theorem low14 : Try.f14.body.bind low = some L14 := by kernel_rfl
theorem call14 {args : List AV} {H : List AO} {R : AV → List AO → Prop} (h : LW Try.prog L14 (endL Try.prog [ResultVar.tmp 4] R) (args ++ List.replicate (9 - args.length) (.v undef)) H) : ACall Try.prog 14 args H R :=
  ACall_of_LW Try.func14 low14 (by decide) rfl rfl h
noncomputable def L15 : LC := (.seq (.reg [⟨some 2, Op.assign (Operand.const (Value.bool false)), none⟩])
  (.seq (.reg [⟨some 3, Op.move (Operand.tmp 0), none⟩,
    ⟨some 4, Op.call { callee := Callee.builtin Builtin.len, args := #[Operand.tmp 3], argTypes := #[9] }, none⟩,
    ⟨some 5, Op.binOp BinOp.gtr 3 (Operand.tmp 4) (Operand.const (Value.int IntKind.i64 40)) 3, none⟩,
    ⟨some 2, Op.assign (Operand.tmp 5), none⟩])
  .ret))
theorem low15 : Try.f15.body.bind low = some L15 := by kernel_rfl
theorem call15 {args : List AV} {H : List AO} {R : AV → List AO → Prop} (h : LW Try.prog L15 (endL Try.prog [ResultVar.tmp 2] R) (args ++ List.replicate (6 - args.length) (.v undef)) H) : ACall Try.prog 15 args H R :=
  ACall_of_LW Try.func15 low15 (by decide) rfl rfl h
noncomputable def L16_b0 : LC := (.seq (.reg [⟨some 23, Op.binOp BinOp.lss 3 (Operand.tmp 22) (Operand.tmp 21) 3, none⟩])
  (.seq (.cond (Operand.tmp 23) .skip
  (.exit 0))
  (.seq (.block 1 (.seq (.reg [⟨some 24, Op.indexAddr 24 (Operand.tmp 20) (Operand.tmp 22), none⟩,
    ⟨some 25, Op.load 9 (Operand.tmp 24), none⟩,
    ⟨some 8, Op.assign (Operand.tmp 25), none⟩])
  (.seq (.reg [⟨some 26, Op.move (Operand.tmp 8), none⟩,
    ⟨some 27, Op.buildSlice 24 1 #[(0, Operand.tmp 26)], none⟩,
    ⟨some 28, Op.build 26 #[(0, Operand.tmp 27)], none⟩,
    ⟨some 29, Op.call { callee := Callee.value (Operand.func 25), args := #[Operand.tmp 28], argTypes := #[26] }, none⟩,
    ⟨some 9, Op.assign (Operand.tmp 29), none⟩])
  (.seq (.reg [⟨some 30, Op.move (Operand.tmp 9), none⟩,
    ⟨some 31, Op.binOp BinOp.neq 32 (Operand.tmp 30) (Operand.const (Value.int IntKind.i64 0)) 32, none⟩])
  (.cond (Operand.tmp 31) (.seq (.reg [⟨some 32, Op.move (Operand.tmp 9), none⟩,
    ⟨some 4, Op.assign (Operand.const (Value.string { data := #[] })), none⟩,
    ⟨some 5, Op.assign (Operand.tmp 32), none⟩])
  .ret)
  .skip)))))
  (.reg [⟨some 33, Op.binOp BinOp.add 3 (Operand.tmp 22) (Operand.const (Value.int IntKind.i64 1)) 3, none⟩,
    ⟨some 22, Op.move (Operand.tmp 33), none⟩]))))
noncomputable def d16_17 : Array Oper := drawOps Try.f16 17
def l16_17 : List LOp := [⟨some 42, Op.fieldAddr 23 (Operand.tmp 2) 0, none⟩,
    ⟨some 43, Op.load 9 (Operand.tmp 42), none⟩,
    ⟨some 44, Op.move (Operand.tmp 1), none⟩,
    ⟨some 45, Op.call { callee := Callee.value (Operand.func 33), args := #[Operand.tmp 44, Operand.const (Value.string { data := #[32] })], argTypes := #[24, 9] }, none⟩,
    ⟨some 46, Op.binOp BinOp.add 9 (Operand.tmp 43) (Operand.tmp 45) 9, none⟩,
    ⟨some 47, Op.fieldAddr 23 (Operand.tmp 2) 1, none⟩,
    ⟨some 48, Op.load 9 (Operand.tmp 47), none⟩,
    ⟨some 49, Op.binOp BinOp.add 9 (Operand.tmp 46) (Operand.tmp 48) 9, none⟩,
    ⟨some 10, Op.assign (Operand.tmp 49), none⟩]
theorem dl16_17 : lowOps d16_17 d16_17.toList = some l16_17 := by kernel_rfl
theorem dx16_17 : lexOK d16_17.toList = true := by kernel_rfl
noncomputable def L16 : LC := (.seq (.reg [⟨some 2, Op.box 23 (Operand.tmp 0), none⟩,
    ⟨some 4, Op.assign (Operand.const (Value.string { data := #[] })), none⟩,
    ⟨some 5, Op.assign (Operand.const (Value.int IntKind.i64 0)), none⟩])
  (.seq (.seq (.reg [⟨some 12, Op.load 23 (Operand.tmp 2), none⟩,
    ⟨some 13, Op.call { callee := Callee.value (Operand.func 24), args := #[Operand.tmp 12], argTypes := #[23] }, none⟩,
    ⟨some 6, Op.assign (Operand.tmp 13), none⟩])
  (.seq (.reg [⟨some 14, Op.move (Operand.tmp 6), none⟩,
    ⟨some 15, Op.binOp BinOp.neq 32 (Operand.tmp 14) (Operand.const (Value.int IntKind.i64 0)) 32, none⟩])
  (.cond (Operand.tmp 15) (.seq (.reg [⟨some 16, Op.move (Operand.tmp 6), none⟩,
    ⟨some 4, Op.assign (Operand.const (Value.string { data := #[] })), none⟩,
    ⟨some 5, Op.assign (Operand.tmp 16), none⟩])
  .ret)
  .skip)))
  (.seq (.seq (.reg [⟨some 17, Op.move (Operand.tmp 1), none⟩,
    ⟨some 18, Op.call { callee := Callee.builtin Builtin.len, args := #[Operand.tmp 17], argTypes := #[24] }, none⟩,
    ⟨some 19, Op.binOp BinOp.gtr 3 (Operand.tmp 18) (Operand.const (Value.int IntKind.i64 3)) 3, none⟩])
  (.cond (Operand.tmp 19) (.seq (.reg [⟨some 4, Op.assign (Operand.const (Value.string { data := #[] })), none⟩,
    ⟨some 5, Op.assign (Operand.const (Value.int IntKind.i64 3)), none⟩])
  .ret)
  .skip))
  (.seq (.seq (.reg [⟨some 20, Op.move (Operand.tmp 1), none⟩,
    ⟨some 21, Op.call { callee := Callee.builtin Builtin.len, args := #[Operand.tmp 20], argTypes := #[24] }, none⟩,
    ⟨some 22, Op.move (Operand.const (Value.int IntKind.i64 0)), none⟩])
  (.block 0 (.loop L16_b0)))
  (.seq (.seq (.reg [⟨some 34, Op.load 23 (Operand.tmp 2), none⟩,
    ⟨some 35, Op.move (Operand.tmp 1), none⟩,
    ⟨some 36, Op.call { callee := Callee.value (Operand.func 32), args := #[Operand.tmp 34, Operand.tmp 35], argTypes := #[23, 24] }, none⟩,
    ⟨some 37, Op.unOp UnOp.not 4 (Operand.tmp 36), none⟩])
  (.cond (Operand.tmp 37) (.seq (.reg [⟨some 4, Op.assign (Operand.const (Value.string { data := #[] })), none⟩,
    ⟨some 5, Op.assign (Operand.const (Value.int IntKind.i64 6)), none⟩])
  .ret)
  .skip))
  (.seq (.seq (.reg [⟨some 38, Op.load 23 (Operand.tmp 2), none⟩,
    ⟨some 39, Op.move (Operand.tmp 1), none⟩,
    ⟨some 40, Op.call { callee := Callee.value (Operand.func 29), args := #[Operand.tmp 38, Operand.tmp 39], argTypes := #[23, 24] }, none⟩,
    ⟨some 41, Op.unOp UnOp.not 4 (Operand.tmp 40), none⟩])
  (.cond (Operand.tmp 41) (.seq (.reg [⟨some 4, Op.assign (Operand.const (Value.string { data := #[] })), none⟩,
    ⟨some 5, Op.assign (Operand.const (Value.int IntKind.i64 19)), none⟩])
  .ret)
  .skip))
  (.seq (.draw 17 d16_17)
  (.seq (.seq (.reg [⟨some 50, Op.move (Operand.tmp 10), none⟩,
    ⟨some 51, Op.call { callee := Callee.value (Operand.func 34), args := #[Operand.tmp 50], argTypes := #[9] }, none⟩,
    ⟨some 11, Op.assign (Operand.tmp 51), none⟩])
  (.seq (.reg [⟨some 52, Op.move (Operand.tmp 11), none⟩,
    ⟨some 53, Op.binOp BinOp.neq 32 (Operand.tmp 52) (Operand.const (Value.int IntKind.i64 0)) 32, none⟩])
  (.cond (Operand.tmp 53) (.seq (.reg [⟨some 54, Op.move (Operand.tmp 11), none⟩,
    ⟨some 4, Op.assign (Operand.const (Value.string { data := #[] })), none⟩,
    ⟨some 5, Op.assign (Operand.tmp 54), none⟩])
  .ret)
  .skip)))
  (.seq (.reg [⟨some 55, Op.move (Operand.tmp 10), none⟩,
    ⟨some 4, Op.assign (Operand.tmp 55), none⟩,
    ⟨some 5, Op.assign (Operand.const (Value.int IntKind.i64 0)), none⟩])
  .ret)))))))))
theorem low16 : Try.f16.body.bind low = some L16 := by kernel_rfl
theorem call16 {args : List AV} {H : List AO} {R : AV → List AO → Prop} (h : LW Try.prog L16 (endL Try.prog [ResultVar.tmp 4, ResultVar.tmp 5] R) (args ++ List.replicate (56 - args.length) (.v undef)) H) : ACall Try.prog 16 args H R :=
  ACall_of_LW Try.func16 low16 (by decide) rfl rfl h
noncomputable def L17 : LC := (.seq (.reg [⟨some 2, Op.assign (Operand.const (Value.slice none 0 0)), none⟩])
  (.seq (.seq (.reg [⟨some 3, Op.move (Operand.tmp 0), none⟩,
    ⟨some 4, Op.binOp BinOp.eql 24 (Operand.tmp 3) (Operand.const (Value.slice none 0 0)) 24, none⟩])
  (.cond (Operand.tmp 4) (.seq (.reg [⟨some 2, Op.assign (Operand.const (Value.slice none 0 0)), none⟩])
  .ret)
  .skip))
  (.seq (.reg [⟨some 5, Op.buildSlice 24 0 #[], none⟩,
    ⟨some 6, Op.move (Operand.tmp 0), none⟩,
    ⟨some 7, Op.call { callee := Callee.builtin Builtin.append, args := #[Operand.tmp 5, Operand.tmp 6], argTypes := #[24, 24] }, none⟩,
    ⟨some 2, Op.assign (Operand.tmp 7), none⟩])
  .ret)))
theorem low17 : Try.f17.body.bind low = some L17 := by kernel_rfl
theorem callm17 {k : Nat} {args : List AV} {H : List AO} {R : AV → List AO → Prop} (h : MX Try.prog k L17 (endM Try.prog k [ResultVar.tmp 2] R) (args ++ List.replicate (8 - args.length) (.v undef)) H) : AFn Try.prog 17 k args H R :=
  AFn_of_MW Try.func17 low17 (by decide) rfl rfl (MX_ok h)
noncomputable def L18_b0 : LC := (.seq (.seq (.reg [⟨some 19, Op.move (Operand.tmp 7), none⟩,
    ⟨some 20, Op.move (Operand.tmp 1), none⟩,
    ⟨some 21, Op.call { callee := Callee.builtin Builtin.len, args := #[Operand.tmp 20], argTypes := #[24] }, none⟩,
    ⟨some 22, Op.binOp BinOp.lss 3 (Operand.tmp 19) (Operand.tmp 21) 3, none⟩])
  (.cond (Operand.tmp 22) .skip
  (.exit 0)))
  (.seq (.block 1 (.seq (.reg [⟨some 25, Op.move (Operand.tmp 1), none⟩,
    ⟨some 26, Op.move (Operand.tmp 7), none⟩,
    ⟨some 27, Op.indexAddr 24 (Operand.tmp 25) (Operand.tmp 26), none⟩,
    ⟨some 28, Op.load 9 (Operand.tmp 27), none⟩,
    ⟨some 29, Op.call { callee := Callee.value (Operand.func 36), args := #[Operand.tmp 28], argTypes := #[9] }, none⟩,
    ⟨some 8, Op.assign (Operand.tmp 29), none⟩])
  (.seq (.reg [⟨some 30, Op.move (Operand.tmp 8), none⟩,
    ⟨some 31, Op.binOp BinOp.neq 32 (Operand.tmp 30) (Operand.const (Value.int IntKind.i64 0)) 32, none⟩])
  (.cond (Operand.tmp 31) (.seq (.reg [⟨some 32, Op.move (Operand.tmp 8), none⟩,
    ⟨some 4, Op.assign (Operand.const (Value.string { data := #[] })), none⟩,
    ⟨some 5, Op.assign (Operand.tmp 32), none⟩])
  .ret)
  .skip))))
  (.reg [⟨some 23, Op.move (Operand.tmp 7), none⟩,
    ⟨some 24, Op.binOp BinOp.add 3 (Operand.tmp 23) (Operand.const (Value.int IntKind.i64 1)) 3, none⟩,
    ⟨some 7, Op.assign (Operand.tmp 24), none⟩])))
noncomputable def d18_16 : Array Oper := drawOps Try.f18 16
def l18_16 : List LOp := [⟨some 41, Op.fieldAddr 23 (Operand.tmp 2) 0, none⟩,
    ⟨some 42, Op.load 9 (Operand.tmp 41), none⟩,
    ⟨some 43, Op.move (Operand.tmp 1), none⟩,
    ⟨some 44, Op.call { callee := Callee.value (Operand.func 39), args := #[Operand.tmp 43, Operand.const (Value.string { data := #[32] })], argTypes := #[24, 9] }, none⟩,
    ⟨some 45, Op.binOp BinOp.add 9 (Operand.tmp 42) (Operand.tmp 44) 9, none⟩,
    ⟨some 46, Op.fieldAddr 23 (Operand.tmp 2) 1, none⟩,
    ⟨some 47, Op.load 9 (Operand.tmp 46), none⟩,
    ⟨some 48, Op.binOp BinOp.add 9 (Operand.tmp 45) (Operand.tmp 47) 9, none⟩,
    ⟨some 9, Op.assign (Operand.tmp 48), none⟩]
theorem dl18_16 : lowOps d18_16 d18_16.toList = some l18_16 := by kernel_rfl
theorem dx18_16 : lexOK d18_16.toList = true := by kernel_rfl
noncomputable def L18 : LC := (.seq (.reg [⟨some 2, Op.box 23 (Operand.tmp 0), none⟩,
    ⟨some 4, Op.assign (Operand.const (Value.string { data := #[] })), none⟩,
    ⟨some 5, Op.assign (Operand.const (Value.int IntKind.i64 0)), none⟩])
  (.seq (.seq (.reg [⟨some 11, Op.load 23 (Operand.tmp 2), none⟩,
    ⟨some 12, Op.call { callee := Callee.value (Operand.func 35), args := #[Operand.tmp 11], argTypes := #[23] }, none⟩,
    ⟨some 6, Op.assign (Operand.tmp 12), none⟩])
  (.seq (.reg [⟨some 13, Op.move (Operand.tmp 6), none⟩,
    ⟨some 14, Op.binOp BinOp.neq 32 (Operand.tmp 13) (Operand.const (Value.int IntKind.i64 0)) 32, none⟩])
  (.cond (Operand.tmp 14) (.seq (.reg [⟨some 15, Op.move (Operand.tmp 6), none⟩,
    ⟨some 4, Op.assign (Operand.const (Value.string { data := #[] })), none⟩,
    ⟨some 5, Op.assign (Operand.tmp 15), none⟩])
  .ret)
  .skip)))
  (.seq (.seq (.reg [⟨some 16, Op.move (Operand.tmp 1), none⟩,
    ⟨some 17, Op.call { callee := Callee.builtin Builtin.len, args := #[Operand.tmp 16], argTypes := #[24] }, none⟩,
    ⟨some 18, Op.binOp BinOp.gtr 3 (Operand.tmp 17) (Operand.const (Value.int IntKind.i64 3)) 3, none⟩])
  (.cond (Operand.tmp 18) (.seq (.reg [⟨some 4, Op.assign (Operand.const (Value.string { data := #[] })), none⟩,
    ⟨some 5, Op.assign (Operand.const (Value.int IntKind.i64 3)), none⟩])
  .ret)
  .skip))
  (.seq (.seq (.reg [⟨some 7, Op.assign (Operand.const (Value.int IntKind.i64 0)), none⟩])
  (.block 0 (.loop L18_b0)))
  (.seq (.seq (.reg [⟨some 33, Op.load 23 (Operand.tmp 2), none⟩,
    ⟨some 34, Op.move (Operand.tmp 1), none⟩,
    ⟨some 35, Op.call { callee := Callee.value (Operand.func 37), args := #[Operand.tmp 33, Operand.tmp 34], argTypes := #[23, 24] }, none⟩,
    ⟨some 36, Op.unOp UnOp.not 4 (Operand.tmp 35), none⟩])
  (.cond (Operand.tmp 36) (.seq (.reg [⟨some 4, Op.assign (Operand.const (Value.string { data := #[] })), none⟩,
    ⟨some 5, Op.assign (Operand.const (Value.int IntKind.i64 6)), none⟩])
  .ret)
  .skip))
  (.seq (.seq (.reg [⟨some 37, Op.load 23 (Operand.tmp 2), none⟩,
    ⟨some 38, Op.move (Operand.tmp 1), none⟩,
    ⟨some 39, Op.call { callee := Callee.value (Operand.func 38), args := #[Operand.tmp 37, Operand.tmp 38], argTypes := #[23, 24] }, none⟩,
    ⟨some 40, Op.unOp UnOp.not 4 (Operand.tmp 39), none⟩])
  (.cond (Operand.tmp 40) (.seq (.reg [⟨some 4, Op.assign (Operand.const (Value.string { data := #[] })), none⟩,
    ⟨some 5, Op.assign (Operand.const (Value.int IntKind.i64 19)), none⟩])
  .ret)
  .skip))
  (.seq (.draw 16 d18_16)
  (.seq (.seq (.reg [⟨some 49, Op.move (Operand.tmp 9), none⟩,
    ⟨some 50, Op.call { callee := Callee.value (Operand.func 40), args := #[Operand.tmp 49], argTypes := #[9] }, none⟩,
    ⟨some 10, Op.assign (Operand.tmp 50), none⟩])
  (.seq (.reg [⟨some 51, Op.move (Operand.tmp 10), none⟩,
    ⟨some 52, Op.binOp BinOp.neq 32 (Operand.tmp 51) (Operand.const (Value.int IntKind.i64 0)) 32, none⟩])
  (.cond (Operand.tmp 52) (.seq (.reg [⟨some 53, Op.move (Operand.tmp 10), none⟩,
    ⟨some 4, Op.assign (Operand.const (Value.string { data := #[] })), none⟩,
    ⟨some 5, Op.assign (Operand.tmp 53), none⟩])
  .ret)
  .skip)))
  (.seq (.reg [⟨some 54, Op.move (Operand.tmp 9), none⟩,
    ⟨some 4, Op.assign (Operand.tmp 54), none⟩,
    ⟨some 5, Op.assign (Operand.const (Value.int IntKind.i64 0)), none⟩])
  .ret)))))))))
theorem low18 : Try.f18.body.bind low = some L18 := by kernel_rfl
theorem call18 {args : List AV} {H : List AO} {R : AV → List AO → Prop} (h : LW Try.prog L18 (endL Try.prog [ResultVar.tmp 4, ResultVar.tmp 5] R) (args ++ List.replicate (55 - args.length) (.v undef)) H) : ACall Try.prog 18 args H R :=
  ACall_of_LW Try.func18 low18 (by decide) rfl rfl h
noncomputable def L19 : LC := (.seq (.reg [⟨some 1, Op.box 26 (Operand.tmp 0), none⟩,
    ⟨some 2, Op.assign (Operand.const (Value.int IntKind.i64 0)), none⟩])
  (.seq (.reg [⟨some 6, Op.load 26 (Operand.tmp 1), none⟩,
    ⟨some 7, Op.call { callee := Callee.value (Operand.func 41), args := #[Operand.tmp 6], argTypes := #[26] }, none⟩,
    ⟨some 5, Op.move (Operand.tmp 7), none⟩,
    ⟨some 8, Op.extract (Operand.tmp 5) 0, none⟩,
    ⟨some 9, Op.extract (Operand.tmp 5) 1, none⟩,
    ⟨some 3, Op.assign (Operand.tmp 8), none⟩,
    ⟨some 4, Op.assign (Operand.tmp 9), none⟩])
  (.seq (.reg [⟨some 10, Op.move (Operand.tmp 4), none⟩,
    ⟨some 2, Op.assign (Operand.tmp 10), none⟩])
  .ret)))
theorem low19 : Try.f19.body.bind low = some L19 := by kernel_rfl
theorem call19 {args : List AV} {H : List AO} {R : AV → List AO → Prop} (h : LW Try.prog L19 (endL Try.prog [ResultVar.tmp 2] R) (args ++ List.replicate (11 - args.length) (.v undef)) H) : ACall Try.prog 19 args H R :=
  ACall_of_LW Try.func19 low19 (by decide) rfl rfl h
noncomputable def d20_14 : Array Oper := drawOps Try.f20 14
def l20_14 : List LOp := [⟨some 37, Op.load 23 (Operand.tmp 2), none⟩,
    ⟨some 38, Op.move (Operand.tmp 8), none⟩,
    ⟨some 39, Op.move (Operand.tmp 11), none⟩,
    ⟨some 40, Op.indexAddr 31 (Operand.tmp 38) (Operand.tmp 39), none⟩,
    ⟨some 41, Op.load 24 (Operand.tmp 40), none⟩,
    ⟨some 42, Op.call { callee := Callee.value (Operand.func 38), args := #[Operand.tmp 37, Operand.tmp 41], argTypes := #[23, 24] }, none⟩]
theorem dl20_14 : lowOps d20_14 d20_14.toList = some l20_14 := by kernel_rfl
theorem dx20_14 : lexOK d20_14.toList = true := by kernel_rfl
noncomputable def L20_b0 : LC := (.seq (.seq (.reg [⟨some 31, Op.move (Operand.tmp 11), none⟩,
    ⟨some 32, Op.move (Operand.tmp 8), none⟩,
    ⟨some 33, Op.call { callee := Callee.builtin Builtin.len, args := #[Operand.tmp 32], argTypes := #[31] }, none⟩,
    ⟨some 34, Op.binOp BinOp.lss 3 (Operand.tmp 31) (Operand.tmp 33) 3, none⟩])
  (.cond (Operand.tmp 34) .skip
  (.exit 0)))
  (.seq (.block 1 (.seq (.draw 14 d20_14)
  (.cond (Operand.tmp 42) (.reg [⟨some 43, Op.move (Operand.tmp 10), none⟩,
    ⟨some 44, Op.move (Operand.tmp 8), none⟩,
    ⟨some 45, Op.move (Operand.tmp 11), none⟩,
    ⟨some 46, Op.indexAddr 31 (Operand.tmp 44) (Operand.tmp 45), none⟩,
    ⟨some 47, Op.load 24 (Operand.tmp 46), none⟩,
    ⟨some 48, Op.buildSlice 31 1 #[(0, Operand.tmp 47)], none⟩,
    ⟨some 49, Op.call { callee := Callee.builtin Builtin.append, args := #[Operand.tmp 43, Operand.tmp 48], argTypes := #[31, 31] }, none⟩,
    ⟨some 10, Op.assign (Operand.tmp 49), none⟩])
  .skip)))
  (.reg [⟨some 35, Op.move (Operand.tmp 11), none⟩,
    ⟨some 36, Op.binOp BinOp.add 3 (Operand.tmp 35) (Operand.const (Value.int IntKind.i64 1)) 3, none⟩,
    ⟨some 11, Op.assign (Operand.tmp 36), none⟩])))
noncomputable def L20 : LC := (.seq (.reg [⟨some 2, Op.box 23 (Operand.tmp 0), none⟩,
    ⟨some 3, Op.box 26 (Operand.tmp 1), none⟩,
    ⟨some 4, Op.assign (Operand.const (Value.slice none 0 0)), none⟩,
    ⟨some 5, Op.assign (Operand.const (Value.int IntKind.i64 0)), none⟩])
  (.seq (.seq (.reg [⟨some 12, Op.load 23 (Operand.tmp 2), none⟩,
    ⟨some 13, Op.call { callee := Callee.value (Operand.func 35), args := #[Operand.tmp 12], argTypes := #[23] }, none⟩,
    ⟨some 6, Op.assign (Operand.tmp 13), none⟩])
  (.seq (.reg [⟨some 14, Op.move (Operand.tmp 6), none⟩,
    ⟨some 15, Op.binOp BinOp.neq 32 (Operand.tmp 14) (Operand.const (Value.int IntKind.i64 0)) 32, none⟩])
  (.cond (Operand.tmp 15) (.seq (.reg [⟨some 16, Op.move (Operand.tmp 6), none⟩,
    ⟨some 4, Op.assign (Operand.const (Value.slice none 0 0)), none⟩,
    ⟨some 5, Op.assign (Operand.tmp 16), none⟩])
  .ret)
  .skip)))
  (.seq (.seq (.reg [⟨some 17, Op.load 26 (Operand.tmp 3), none⟩,
    ⟨some 18, Op.call { callee := Callee.value (Operand.func 19), args := #[Operand.tmp 17], argTypes := #[26] }, none⟩,
    ⟨some 7, Op.assign (Operand.tmp 18), none⟩])
  (.seq (.reg [⟨some 19, Op.move (Operand.tmp 7), none⟩,
    ⟨some 20, Op.binOp BinOp.neq 32 (Operand.tmp 19) (Operand.const (Value.int IntKind.i64 0)) 32, none⟩])
  (.cond (Operand.tmp 20) (.seq (.reg [⟨some 21, Op.move (Operand.tmp 7), none⟩,
    ⟨some 4, Op.assign (Operand.const (Value.slice none 0 0)), none⟩,
    ⟨some 5, Op.assign (Operand.tmp 21), none⟩])
  .ret)
  .skip)))
  (.seq (.reg [⟨some 23, Op.load 23 (Operand.tmp 2), none⟩,
    ⟨some 24, Op.load 26 (Operand.tmp 3), none⟩,
    ⟨some 25, Op.call { callee := Callee.value (Operand.func 42), args := #[Operand.tmp 23, Operand.tmp 24], argTypes := #[23, 26] }, none⟩,
    ⟨some 22, Op.move (Operand.tmp 25), none⟩,
    ⟨some 26, Op.extract (Operand.tmp 22) 0, none⟩,
    ⟨some 27, Op.extract (Operand.tmp 22) 1, none⟩,
    ⟨some 8, Op.assign (Operand.tmp 26), none⟩,
    ⟨some 9, Op.assign (Operand.tmp 27), none⟩])
  (.seq (.seq (.reg [⟨some 28, Op.move (Operand.tmp 9), none⟩,
    ⟨some 29, Op.binOp BinOp.neq 32 (Operand.tmp 28) (Operand.const (Value.int IntKind.i64 0)) 32, none⟩])
  (.cond (Operand.tmp 29) (.seq (.reg [⟨some 30, Op.move (Operand.tmp 9), none⟩,
    ⟨some 4, Op.assign (Operand.const (Value.slice none 0 0)), none⟩,
    ⟨some 5, Op.assign (Operand.tmp 30), none⟩])
  .ret)
  .skip))
  (.seq (.reg [⟨some 10, Op.assign (Operand.const (Value.slice none 0 0)), none⟩])
  (.seq (.seq (.reg [⟨some 11, Op.assign (Operand.const (Value.int IntKind.i64 0)), none⟩])
  (.block 0 (.loop L20_b0)))
  (.seq (.reg [⟨some 50, Op.move (Operand.tmp 10), none⟩,
    ⟨some 4, Op.assign (Operand.tmp 50), none⟩,
    ⟨some 5, Op.assign (Operand.const (Value.int IntKind.i64 0)), none⟩])
  .ret))))))))
theorem low20 : Try.f20.body.bind low = some L20 := by kernel_rfl
theorem callm20 {k : Nat} {args : List AV} {H : List AO} {R : AV → List AO → Prop} (h : MX Try.prog k L20 (endM Try.prog k [ResultVar.tmp 4, ResultVar.tmp 5] R) (args ++ List.replicate (51 - args.length) (.v undef)) H) : AFn Try.prog 20 k args H R :=
  AFn_of_MW Try.func20 low20 (by decide) rfl rfl (MX_ok h)
noncomputable def d21_6 : Array Oper := drawOps Try.f21 6
def l21_6 : List LOp := [⟨some 17, Op.move (Operand.tmp 0), none⟩,
    ⟨some 18, Op.move (Operand.tmp 5), none⟩,
    ⟨some 19, Op.indexAddr 31 (Operand.tmp 17) (Operand.tmp 18), none⟩,
    ⟨some 20, Op.load 24 (Operand.tmp 19), none⟩,
    ⟨some 21, Op.move (Operand.tmp 1), none⟩,
    ⟨some 22, Op.move (Operand.tmp 5), none⟩,
    ⟨some 23, Op.indexAddr 31 (Operand.tmp 21) (Operand.tmp 22), none⟩,
    ⟨some 24, Op.load 24 (Operand.tmp 23), none⟩,
    ⟨some 25, Op.call { callee := Callee.value (Operand.func 43), args := #[Operand.tmp 20, Operand.tmp 24], argTypes := #[24, 24] }, none⟩,
    ⟨some 26, Op.unOp UnOp.not 4 (Operand.tmp 25), none⟩]
theorem dl21_6 : lowOps d21_6 d21_6.toList = some l21_6 := by kernel_rfl
theorem dx21_6 : lexOK d21_6.toList = true := by kernel_rfl
noncomputable def L21_b0 : LC := (.seq (.seq (.reg [⟨some 11, Op.move (Operand.tmp 5), none⟩,
    ⟨some 12, Op.move (Operand.tmp 0), none⟩,
    ⟨some 13, Op.call { callee := Callee.builtin Builtin.len, args := #[Operand.tmp 12], argTypes := #[31] }, none⟩,
    ⟨some 14, Op.binOp BinOp.lss 3 (Operand.tmp 11) (Operand.tmp 13) 3, none⟩])
  (.cond (Operand.tmp 14) .skip
  (.exit 0)))
  (.seq (.block 1 (.seq (.draw 6 d21_6)
  (.cond (Operand.tmp 26) (.seq (.reg [⟨some 4, Op.assign (Operand.const (Value.bool false)), none⟩])
  .ret)
  .skip)))
  (.reg [⟨some 15, Op.move (Operand.tmp 5), none⟩,
    ⟨some 16, Op.binOp BinOp.add 3 (Operand.tmp 15) (Operand.const (Value.int IntKind.i64 1)) 3, none⟩,
    ⟨some 5, Op.assign (Operand.tmp 16), none⟩])))
noncomputable def L21 : LC := (.seq (.reg [⟨some 4, Op.assign (Operand.const (Value.bool false)), none⟩])
  (.seq (.seq (.reg [⟨some 6, Op.move (Operand.tmp 0), none⟩,
    ⟨some 7, Op.call { callee := Callee.builtin Builtin.len, args := #[Operand.tmp 6], argTypes := #[31] }, none⟩,
    ⟨some 8, Op.move (Operand.tmp 1), none⟩,
    ⟨some 9, Op.call { callee := Callee.builtin Builtin.len, args := #[Operand.tmp 8], argTypes := #[31] }, none⟩,
    ⟨some 10, Op.binOp BinOp.neq 3 (Operand.tmp 7) (Operand.tmp 9) 3, none⟩])
  (.cond (Operand.tmp 10) (.seq (.reg [⟨some 4, Op.assign (Operand.const (Value.bool false)), none⟩])
  .ret)
  .skip))
  (.seq (.seq (.reg [⟨some 5, Op.assign (Operand.const (Value.int IntKind.i64 0)), none⟩])
  (.block 0 (.loop L21_b0)))
  (.seq (.reg [⟨some 4, Op.assign (Operand.const (Value.bool true)), none⟩])
  .ret))))
theorem low21 : Try.f21.body.bind low = some L21 := by kernel_rfl
theorem callm21 {k : Nat} {args : List AV} {H : List AO} {R : AV → List AO → Prop} (h : MX Try.prog k L21 (endM Try.prog k [ResultVar.tmp 4] R) (args ++ List.replicate (27 - args.length) (.v undef)) H) : AFn Try.prog 21 k args H R :=
  AFn_of_MW Try.func21 low21 (by decide) rfl rfl (MX_ok h)
theorem callp21 {args : List AV} {r : AV} (h : MX Try.prog 0 L21 (endM Try.prog 0 [ResultVar.tmp 4] (fun v Ho => v = r ∧ Ho = [])) (args ++ List.replicate (27 - args.length) (.v undef)) []) : APure Try.prog 21 args r := APure_of (callm21 h)
noncomputable def d22_10 : Array Oper := drawOps Try.f22 10
def l22_10 : List LOp := [⟨some 50, Op.move (Operand.tmp 0), none⟩,
    ⟨some 51, Op.move (Operand.tmp 5), none⟩,
    ⟨some 52, Op.slice 9 (Operand.tmp 50) none (some (Operand.tmp 51)) none, none⟩,
    ⟨some 53, Op.move (Operand.tmp 0), none⟩,
    ⟨some 54, Op.move (Operand.tmp 6), none⟩,
    ⟨some 55, Op.binOp BinOp.add 3 (Operand.tmp 54) (Operand.const (Value.int IntKind.i64 1)) 3, none⟩,
    ⟨some 56, Op.slice 9 (Operand.tmp 53) (some (Operand.tmp 55)) none none, none⟩,
    ⟨some 57, Op.fieldAddr 23 (Operand.tmp 7) 0, none⟩,
    ⟨none, Op.store 9 (Operand.tmp 57) (Operand.tmp 52), none⟩,
    ⟨some 58, Op.fieldAddr 23 (Operand.tmp 7) 1, none⟩,
    ⟨none, Op.store 9 (Operand.tmp 58) (Operand.tmp 56), none⟩]
theorem dl22_10 : lowOps d22_10 d22_10.toList = some l22_10 := by kernel_rfl
theorem dx22_10 : lexOK d22_10.toList = true := by kernel_rfl
def an22_10 : List (List Nat) := [[], [], [0, 1], [], [], [4], [3, 4, 5], [0, 1, 2], [0, 1, 2, 7], [0, 1, 2, 3, 4, 5, 6, 7, 8], [0, 1, 2, 3, 4, 5, 6, 7, 8, 9]]
theorem ax22_10 : ancOK d22_10.toList an22_10 = true := by kernel_rfl
noncomputable def L22 : LC := (.seq (.reg [⟨some 2, Op.alloc 23, none⟩,
    ⟨some 3, Op.assign (Operand.const (Value.int IntKind.i64 0)), none⟩])
  (.seq (.seq (.reg [⟨some 10, Op.move (Operand.tmp 0), none⟩,
    ⟨some 11, Op.call { callee := Callee.value (Operand.func 34), args := #[Operand.tmp 10], argTypes := #[9] }, none⟩,
    ⟨some 4, Op.assign (Operand.tmp 11), none⟩])
  (.seq (.reg [⟨some 12, Op.move (Operand.tmp 4), none⟩,
    ⟨some 13, Op.binOp BinOp.neq 32 (Operand.tmp 12) (Operand.const (Value.int IntKind.i64 0)) 32, none⟩])
  (.cond (Operand.tmp 13) (.seq (.reg [⟨some 14, Op.build 23 #[], none⟩,
    ⟨some 15, Op.move (Operand.tmp 4), none⟩,
    ⟨none, Op.store 23 (Operand.tmp 2) (Operand.tmp 14), none⟩,
    ⟨some 3, Op.assign (Operand.tmp 15), none⟩])
  .ret)
  .skip)))
  (.seq (.reg [⟨some 16, Op.move (Operand.tmp 0), none⟩,
    ⟨some 17, Op.call { callee := Callee.value (Operand.func 44), args := #[Operand.tmp 16, Operand.const (Value.int IntKind.u8 60)], argTypes := #[9, 5] }, none⟩,
    ⟨some 18, Op.move (Operand.tmp 0), none⟩,
    ⟨some 19, Op.call { callee := Callee.value (Operand.func 44), args := #[Operand.tmp 18, Operand.const (Value.int IntKind.u8 62)], argTypes := #[9, 5] }, none⟩,
    ⟨some 5, Op.assign (Operand.tmp 17), none⟩,
    ⟨some 6, Op.assign (Operand.tmp 19), none⟩])
  (.seq (.seq (.reg [⟨some 20, Op.move (Operand.tmp 5), none⟩,
    ⟨some 21, Op.binOp BinOp.lss 3 (Operand.tmp 20) (Operand.const (Value.int IntKind.i64 0)) 3, none⟩,
    ⟨some 22, Op.move (Operand.tmp 21), none⟩,
    ⟨some 23, Op.move (Operand.tmp 6), some (22, false)⟩,
    ⟨some 24, Op.move (Operand.tmp 5), some (22, false)⟩,
    ⟨some 25, Op.binOp BinOp.lss 3 (Operand.tmp 23) (Operand.tmp 24) 3, some (22, false)⟩,
    ⟨some 26, Op.pick (Operand.tmp 22) (Operand.const (Value.bool true)) (Operand.tmp 25), none⟩,
    ⟨some 27, Op.move (Operand.tmp 26), none⟩,
    ⟨some 28, Op.move (Operand.tmp 0), some (27, false)⟩,
    ⟨some 29, Op.call { callee := Callee.value (Operand.func 45), args := #[Operand.tmp 28, Operand.const (Value.string { data := #[60] })], argTypes := #[9, 9] }, some (27, false)⟩,
    ⟨some 30, Op.binOp BinOp.neq 3 (Operand.tmp 29) (Operand.const (Value.int IntKind.i64 1)) 3, some (27, false)⟩,
    ⟨some 31, Op.pick (Operand.tmp 27) (Operand.const (Value.bool true)) (Operand.tmp 30), none⟩,
    ⟨some 32, Op.move (Operand.tmp 31), none⟩,
    ⟨some 33, Op.move (Operand.tmp 0), some (32, false)⟩,
    ⟨some 34, Op.call { callee := Callee.value (Operand.func 45), args := #[Operand.tmp 33, Operand.const (Value.string { data := #[62] })], argTypes := #[9, 9] }, some (32, false)⟩,
    ⟨some 35, Op.binOp BinOp.neq 3 (Operand.tmp 34) (Operand.const (Value.int IntKind.i64 1)) 3, some (32, false)⟩,
    ⟨some 36, Op.pick (Operand.tmp 32) (Operand.const (Value.bool true)) (Operand.tmp 35), none⟩])
  (.cond (Operand.tmp 36) (.seq (.reg [⟨some 37, Op.build 23 #[], none⟩,
    ⟨none, Op.store 23 (Operand.tmp 2) (Operand.tmp 37), none⟩,
    ⟨some 3, Op.assign (Operand.const (Value.int IntKind.i64 2)), none⟩])
  .ret)
  .skip))
  (.seq (.reg [⟨some 39, Op.move (Operand.tmp 0), none⟩,
    ⟨some 40, Op.move (Operand.tmp 5), none⟩,
    ⟨some 41, Op.binOp BinOp.add 3 (Operand.tmp 40) (Operand.const (Value.int IntKind.i64 1)) 3, none⟩,
    ⟨some 42, Op.move (Operand.tmp 6), none⟩,
    ⟨some 43, Op.slice 9 (Operand.tmp 39) (some (Operand.tmp 41)) (some (Operand.tmp 42)) none, none⟩,
    ⟨some 44, Op.call { callee := Callee.value (Operand.func 46), args := #[Operand.tmp 43], argTypes := #[9] }, none⟩,
    ⟨some 38, Op.move (Operand.tmp 44), none⟩,
    ⟨some 45, Op.extract (Operand.tmp 38) 0, none⟩,
    ⟨some 46, Op.extract (Operand.tmp 38) 1, none⟩,
    ⟨some 7, Op.alloc 23, none⟩,
    ⟨none, Op.store 23 (Operand.tmp 7) (Operand.tmp 45), none⟩,
    ⟨some 8, Op.assign (Operand.tmp 46), none⟩])
  (.seq (.seq (.reg [⟨some 47, Op.move (Operand.tmp 8), none⟩,
    ⟨some 48, Op.unOp UnOp.not 4 (Operand.tmp 47), none⟩])
  (.cond (Operand.tmp 48) (.seq (.reg [⟨some 49, Op.build 23 #[], none⟩,
    ⟨none, Op.store 23 (Operand.tmp 2) (Operand.tmp 49), none⟩,
    ⟨some 3, Op.assign (Operand.const (Value.int IntKind.i64 2)), none⟩])
  .ret)
  .skip))
  (.seq (.draw 10 d22_10)
  (.seq (.seq (.reg [⟨some 59, Op.load 23 (Operand.tmp 7), none⟩,
    ⟨some 60, Op.call { callee := Callee.value (Operand.func 24), args := #[Operand.tmp 59], argTypes := #[23] }, none⟩,
    ⟨some 9, Op.assign (Operand.tmp 60), none⟩])
  (.seq (.reg [⟨some 61, Op.move (Operand.tmp 9), none⟩,
    ⟨some 62, Op.binOp BinOp.neq 32 (Operand.tmp 61) (Operand.const (Value.int IntKind.i64 0)) 32, none⟩])
  (.cond (Operand.tmp 62) (.seq (.reg [⟨some 63, Op.build 23 #[], none⟩,
    ⟨some 64, Op.move (Operand.tmp 9), none⟩,
    ⟨none, Op.store 23 (Operand.tmp 2) (Operand.tmp 63), none⟩,
    ⟨some 3, Op.assign (Operand.tmp 64), none⟩])
  .ret)
  .skip)))
  (.seq (.reg [⟨some 65, Op.load 23 (Operand.tmp 7), none⟩,
    ⟨none, Op.store 23 (Operand.tmp 2) (Operand.tmp 65), none⟩,
    ⟨some 3, Op.assign (Operand.const (Value.int IntKind.i64 0)), none⟩])
  .ret)))))))))
theorem low22 : Try.f22.body.bind low = some L22 := by kernel_rfl
theorem callm22 {k : Nat} {args : List AV} {H : List AO} {R : AV → List AO → Prop} (h : MX Try.prog k L22 (endM Try.prog k [ResultVar.cell 2 23, ResultVar.tmp 3] R) (args ++ List.replicate (66 - args.length) (.v undef)) H) : AFn Try.prog 22 k args H R :=
  AFn_of_MW Try.func22 low22 (by decide) rfl rfl (MX_ok h)
theorem callp22 {args : List AV} {r : AV} (h : MX Try.prog 0 L22 (endM Try.prog 0 [ResultVar.cell 2 23, ResultVar.tmp 3] (fun v Ho => v = r ∧ Ho = [])) (args ++ List.replicate (66 - args.length) (.v undef)) []) : APure Try.prog 22 args r := APure_of (callm22 h)
noncomputable def L23_b0 : LC := (.seq (.seq (.reg [⟨some 7, Op.move (Operand.tmp 6), none⟩,
    ⟨some 8, Op.move (Operand.tmp 0), none⟩,
    ⟨some 9, Op.call { callee := Callee.builtin Builtin.len, args := #[Operand.tmp 8], argTypes := #[24] }, none⟩,
    ⟨some 10, Op.binOp BinOp.lss 3 (Operand.tmp 7) (Operand.tmp 9) 3, none⟩,
    ⟨some 11, Op.move (Operand.tmp 10), none⟩,
    ⟨some 12, Op.move (Operand.tmp 5), some (11, true)⟩,
    ⟨some 13, Op.move (Operand.tmp 1), some (11, true)⟩,
    ⟨some 14, Op.binOp BinOp.leq 3 (Operand.tmp 12) (Operand.tmp 13) 3, some (11, true)⟩,
    ⟨some 15, Op.pick (Operand.tmp 11) (Operand.tmp 14) (Operand.const (Value.bool false)), none⟩])
  (.cond (Operand.tmp 15) .skip
  (.exit 0)))
  (.seq (.block 1 (.reg [⟨some 18, Op.move (Operand.tmp 5), none⟩,
    ⟨some 19, Op.binOp BinOp.add 3 (Operand.tmp 18) (Operand.const (Value.int IntKind.i64 1)) 3, none⟩,
    ⟨some 20, Op.move (Operand.tmp 0), none⟩,
    ⟨some 21, Op.move (Operand.tmp 6), none⟩,
    ⟨some 22, Op.indexAddr 24 (Operand.tmp 20) (Operand.tmp 21), none⟩,
    ⟨some 23, Op.load 9 (Operand.tmp 22), none⟩,
    ⟨some 24, Op.call { callee := Callee.builtin Builtin.len, args := #[Operand.tmp 23], argTypes := #[9] }, none⟩,
    ⟨some 25, Op.binOp BinOp.add 3 (Operand.tmp 19) (Operand.tmp 24) 3, none⟩,
    ⟨some 5, Op.assign (Operand.tmp 25), none⟩]))
  (.reg [⟨some 16, Op.move (Operand.tmp 6), none⟩,
    ⟨some 17, Op.binOp BinOp.add 3 (Operand.tmp 16) (Operand.const (Value.int IntKind.i64 1)) 3, none⟩,
    ⟨some 6, Op.assign (Operand.tmp 17), none⟩])))
noncomputable def L23 : LC := (.seq (.reg [⟨some 4, Op.assign (Operand.const (Value.int IntKind.i64 0)), none⟩])
  (.seq (.reg [⟨some 5, Op.assign (Operand.const (Value.int IntKind.i64 0)), none⟩])
  (.seq (.seq (.reg [⟨some 6, Op.assign (Operand.const (Value.int IntKind.i64 0)), none⟩])
  (.block 0 (.loop L23_b0)))
  (.seq (.reg [⟨some 26, Op.move (Operand.tmp 5), none⟩,
    ⟨some 4, Op.assign (Operand.tmp 26), none⟩])
  .ret))))
theorem low23 : Try.f23.body.bind low = some L23 := by kernel_rfl
theorem callm23 {k : Nat} {args : List AV} {H : List AO} {R : AV → List AO → Prop} (h : MX Try.prog k L23 (endM Try.prog k [ResultVar.tmp 4] R) (args ++ List.replicate (27 - args.length) (.v undef)) H) : AFn Try.prog 23 k args H R :=
  AFn_of_MW Try.func23 low23 (by decide) rfl rfl (MX_ok h)
theorem callp23 {args : List AV} {r : AV} (h : MX Try.prog 0 L23 (endM Try.prog 0 [ResultVar.tmp 4] (fun v Ho => v = r ∧ Ho = [])) (args ++ List.replicate (27 - args.length) (.v undef)) []) : APure Try.prog 23 args r := APure_of (callm23 h)
noncomputable def L24 : LC := (.seq (.reg [⟨some 1, Op.box 23 (Operand.tmp 0), none⟩,
    ⟨some 2, Op.assign (Operand.const (Value.int IntKind.i64 0)), none⟩])
  (.seq (.seq (.reg [⟨some 5, Op.fieldAddr 23 (Operand.tmp 1) 2, none⟩,
    ⟨some 6, Op.load 3 (Operand.tmp 5), none⟩,
    ⟨some 7, Op.binOp BinOp.lss 3 (Operand.tmp 6) (Operand.const (Value.int IntKind.i64 0)) 3, none⟩,
    ⟨some 8, Op.move (Operand.tmp 7), none⟩,
    ⟨some 9, Op.fieldAddr 23 (Operand.tmp 1) 2, some (8, false)⟩,
    ⟨some 10, Op.load 3 (Operand.tmp 9), some (8, false)⟩,
    ⟨some 11, Op.fieldAddr 23 (Operand.tmp 1) 3, some (8, false)⟩,
    ⟨some 12, Op.load 3 (Operand.tmp 11), some (8, false)⟩,
    ⟨some 13, Op.binOp BinOp.gtr 3 (Operand.tmp 10) (Operand.tmp 12) 3, some (8, false)⟩,
    ⟨some 14, Op.pick (Operand.tmp 8) (Operand.const (Value.bool true)) (Operand.tmp 13), none⟩,
    ⟨some 15, Op.move (Operand.tmp 14), none⟩,
    ⟨some 16, Op.fieldAddr 23 (Operand.tmp 1) 3, some (15, false)⟩,
    ⟨some 17, Op.load 3 (Operand.tmp 16), some (15, false)⟩,
    ⟨some 18, Op.binOp BinOp.gtr 3 (Operand.tmp 17) (Operand.const (Value.int IntKind.i64 30)) 3, some (15, false)⟩,
    ⟨some 19, Op.pick (Operand.tmp 15) (Operand.const (Value.bool true)) (Operand.tmp 18), none⟩])
  (.cond (Operand.tmp 19) (.seq (.reg [⟨some 2, Op.assign (Operand.const (Value.int IntKind.i64 6)), none⟩])
  .ret)
  .skip))
  (.seq (.reg [⟨some 21, Op.fieldAddr 23 (Operand.tmp 1) 4, none⟩,
    ⟨some 22, Op.load 9 (Operand.tmp 21), none⟩,
    ⟨some 23, Op.call { callee := Callee.value (Operand.func 47), args := #[Operand.const (Value.string { data := #[] }), Operand.tmp 22], argTypes := #[9, 9] }, none⟩,
    ⟨some 20, Op.move (Operand.tmp 23), none⟩,
    ⟨some 24, Op.extract (Operand.tmp 20) 0, none⟩,
    ⟨some 25, Op.extract (Operand.tmp 20) 1, none⟩,
    ⟨some 3, Op.assign (Operand.tmp 24), none⟩,
    ⟨some 4, Op.assign (Operand.tmp 25), none⟩])
  (.seq (.reg [⟨some 26, Op.move (Operand.tmp 4), none⟩,
    ⟨some 2, Op.assign (Operand.tmp 26), none⟩])
  .ret))))
theorem low24 : Try.f24.body.bind low = some L24 := by kernel_rfl
theorem call24 {args : List AV} {H : List AO} {R : AV → List AO → Prop} (h : LW Try.prog L24 (endL Try.prog [ResultVar.tmp 2] R) (args ++ List.replicate (27 - args.length) (.v undef)) H) : ACall Try.prog 24 args H R :=
  ACall_of_LW Try.func24 low24 (by decide) rfl rfl h
noncomputable def L25_b0 : LC := (.seq (.reg [⟨some 13, Op.binOp BinOp.lss 3 (Operand.tmp 12) (Operand.tmp 11) 3, none⟩])
  (.seq (.cond (Operand.tmp 13) .skip
  (.exit 0))
  (.seq (.block 1 (.seq (.reg [⟨some 14, Op.move (Operand.tmp 12), none⟩,
    ⟨some 3, Op.assign (Operand.tmp 14), none⟩])
  (.seq (.reg [⟨some 15, Op.fieldAddr 26 (Operand.tmp 1) 0, none⟩,
    ⟨some 16, Op.load 24 (Operand.tmp 15), none⟩,
    ⟨some 17, Op.move (Operand.tmp 3), none⟩,
    ⟨some 18, Op.call { callee := Callee.value (Operand.func 48), args := #[Operand.tmp 16, Operand.tmp 17], argTypes := #[24, 3] }, none⟩,
    ⟨some 4, Op.assign (Operand.tmp 18), none⟩])
  (.seq (.reg [⟨some 19, Op.move (Operand.tmp 4), none⟩,
    ⟨some 20, Op.binOp BinOp.neq 32 (Operand.tmp 19) (Operand.const (Value.int IntKind.i64 0)) 32, none⟩])
  (.cond (Operand.tmp 20) (.seq (.reg [⟨some 21, Op.move (Operand.tmp 4), none⟩,
    ⟨some 2, Op.assign (Operand.tmp 21), none⟩])
  .ret)
  .skip)))))
  (.reg [⟨some 22, Op.binOp BinOp.add 3 (Operand.tmp 12) (Operand.const (Value.int IntKind.i64 1)) 3, none⟩,
    ⟨some 12, Op.move (Operand.tmp 22), none⟩]))))
noncomputable def L25 : LC := (.seq (.reg [⟨some 1, Op.box 26 (Operand.tmp 0), none⟩,
    ⟨some 2, Op.assign (Operand.const (Value.int IntKind.i64 0)), none⟩])
  (.seq (.seq (.reg [⟨some 5, Op.fieldAddr 26 (Operand.tmp 1) 0, none⟩,
    ⟨some 6, Op.load 24 (Operand.tmp 5), none⟩,
    ⟨some 7, Op.call { callee := Callee.builtin Builtin.len, args := #[Operand.tmp 6], argTypes := #[24] }, none⟩,
    ⟨some 8, Op.binOp BinOp.gtr 3 (Operand.tmp 7) (Operand.const (Value.int IntKind.i64 400)) 3, none⟩])
  (.cond (Operand.tmp 8) (.seq (.reg [⟨some 2, Op.assign (Operand.const (Value.int IntKind.i64 3)), none⟩])
  .ret)
  .skip))
  (.seq (.seq (.reg [⟨some 9, Op.fieldAddr 26 (Operand.tmp 1) 0, none⟩,
    ⟨some 10, Op.load 24 (Operand.tmp 9), none⟩,
    ⟨some 11, Op.call { callee := Callee.builtin Builtin.len, args := #[Operand.tmp 10], argTypes := #[24] }, none⟩,
    ⟨some 12, Op.move (Operand.const (Value.int IntKind.i64 0)), none⟩])
  (.block 0 (.loop L25_b0)))
  (.seq (.reg [⟨some 2, Op.assign (Operand.const (Value.int IntKind.i64 0)), none⟩])
  .ret))))
theorem low25 : Try.f25.body.bind low = some L25 := by kernel_rfl
theorem call25 {args : List AV} {H : List AO} {R : AV → List AO → Prop} (h : LW Try.prog L25 (endL Try.prog [ResultVar.tmp 2] R) (args ++ List.replicate (23 - args.length) (.v undef)) H) : ACall Try.prog 25 args H R :=
  ACall_of_LW Try.func25 low25 (by decide) rfl rfl h
noncomputable def d26_4 : Array Oper := drawOps Try.f26 4
def l26_4 : List LOp := [⟨some 21, Op.move (Operand.tmp 0), none⟩,
    ⟨some 22, Op.move (Operand.tmp 0), none⟩,
    ⟨some 23, Op.nilCheck (Operand.tmp 22), none⟩,
    ⟨some 24, Op.fieldAddr 54 (Operand.tmp 23) 2, none⟩,
    ⟨some 25, Op.load 31 (Operand.tmp 24), none⟩,
    ⟨some 26, Op.move (Operand.tmp 1), none⟩,
    ⟨some 27, Op.call { callee := Callee.value (Operand.func 17), args := #[Operand.tmp 26], argTypes := #[24] }, none⟩,
    ⟨some 28, Op.buildSlice 31 1 #[(0, Operand.tmp 27)], none⟩,
    ⟨some 29, Op.call { callee := Callee.builtin Builtin.append, args := #[Operand.tmp 25, Operand.tmp 28], argTypes := #[31, 31] }, none⟩,
    ⟨some 30, Op.nilCheck (Operand.tmp 21), none⟩,
    ⟨some 31, Op.fieldAddr 54 (Operand.tmp 30) 2, none⟩,
    ⟨none, Op.store 31 (Operand.tmp 31) (Operand.tmp 29), none⟩]
theorem dl26_4 : lowOps d26_4 d26_4.toList = some l26_4 := by kernel_rfl
theorem dx26_4 : lexOK d26_4.toList = true := by kernel_rfl
def an26_4 : List (List Nat) := [[], [], [1], [1, 2], [1, 2, 3], [], [5], [5, 6], [1, 2, 3, 4, 5, 6, 7], [0, 1, 2, 3, 4, 5, 6, 7, 8], [0, 1, 2, 3, 4, 5, 6, 7, 8, 9], [0, 1, 2, 3, 4, 5, 6, 7, 8, 9, 10]]
theorem ax26_4 : ancOK d26_4.toList an26_4 = true := by kernel_rfl
noncomputable def L26_b0 : LC := (.seq (.reg [⟨some 59, Op.binOp BinOp.lss 3 (Operand.tmp 58) (Operand.tmp 57) 3, none⟩])
  (.seq (.cond (Operand.tmp 59) .skip
  (.exit 0))
  (.seq (.block 1 (.seq (.reg [⟨some 60, Op.indexAddr 24 (Operand.tmp 56) (Operand.tmp 58), none⟩,
    ⟨some 61, Op.load 9 (Operand.tmp 60), none⟩,
    ⟨some 9, Op.assign (Operand.tmp 61), none⟩])
  (.seq (.reg [⟨some 62, Op.move (Operand.tmp 0), none⟩,
    ⟨some 63, Op.move (Operand.tmp 1), none⟩,
    ⟨some 64, Op.call { callee := Callee.value (Operand.func 17), args := #[Operand.tmp 63], argTypes := #[24] }, none⟩,
    ⟨some 65, Op.move (Operand.tmp 9), none⟩,
    ⟨some 66, Op.buildSlice 24 1 #[(0, Operand.tmp 65)], none⟩,
    ⟨some 67, Op.call { callee := Callee.builtin Builtin.append, args := #[Operand.tmp 64, Operand.tmp 66], argTypes := #[24, 24] }, none⟩,
    ⟨some 68, Op.move (Operand.tmp 2), none⟩,
    ⟨some 69, Op.binOp BinOp.sub 3 (Operand.tmp 68) (Operand.const (Value.int IntKind.i64 1)) 3, none⟩,
    ⟨some 70, Op.call { callee := Callee.value (Operand.func 26), args := #[Operand.tmp 62, Operand.tmp 67, Operand.tmp 69], argTypes := #[52, 24, 3] }, none⟩,
    ⟨some 71, Op.unOp UnOp.not 4 (Operand.tmp 70), none⟩])
  (.cond (Operand.tmp 71) (.seq (.reg [⟨some 6, Op.assign (Operand.const (Value.bool false)), none⟩])
  .ret)
  .skip))))
  (.reg [⟨some 72, Op.binOp BinOp.add 3 (Operand.tmp 58) (Operand.const (Value.int IntKind.i64 1)) 3, none⟩,
    ⟨some 58, Op.move (Operand.tmp 72), none⟩]))))
noncomputable def L26 : LC := (.seq (.reg [⟨some 6, Op.assign (Operand.const (Value.bool false)), none⟩])
  (.seq (.reg [⟨some 10, Op.move (Operand.tmp 1), none⟩,
    ⟨some 11, Op.call { callee := Callee.value (Operand.func 33), args := #[Operand.tmp 10, Operand.const (Value.string { data := #[32] })], argTypes := #[24, 9] }, none⟩,
    ⟨some 12, Op.call { callee := Callee.builtin Builtin.len, args := #[Operand.tmp 11], argTypes := #[9] }, none⟩,
    ⟨some 7, Op.assign (Operand.tmp 12), none⟩])
  (.seq (.seq (.reg [⟨some 13, Op.move (Operand.tmp 2), none⟩,
    ⟨some 14, Op.binOp BinOp.eql 3 (Operand.tmp 13) (Operand.const (Value.int IntKind.i64 0)) 3, none⟩])
  (.cond (Operand.tmp 14) (.seq (.seq (.reg [⟨some 15, Op.move (Operand.tmp 0), none⟩,
    ⟨some 16, Op.nilCheck (Operand.tmp 15), none⟩,
    ⟨some 17, Op.fieldAddr 54 (Operand.tmp 16) 0, none⟩,
    ⟨some 18, Op.load 23 (Operand.tmp 17), none⟩,
    ⟨some 19, Op.move (Operand.tmp 1), none⟩,
    ⟨some 20, Op.call { callee := Callee.value (Operand.func 32), args := #[Operand.tmp 18, Operand.tmp 19], argTypes := #[23, 24] }, none⟩])
  (.cond (Operand.tmp 20) (.draw 4 d26_4)
  .skip))
  (.seq (.reg [⟨some 32, Op.move (Operand.tmp 0), none⟩,
    ⟨some 33, Op.nilCheck (Operand.tmp 32), none⟩,
    ⟨some 34, Op.fieldAddr 54 (Operand.tmp 33) 2, none⟩,
    ⟨some 35, Op.load 31 (Operand.tmp 34), none⟩,
    ⟨some 36, Op.call { callee := Callee.builtin Builtin.len, args := #[Operand.tmp 35], argTypes := #[31] }, none⟩,
    ⟨some 37, Op.binOp BinOp.leq 3 (Operand.tmp 36) (Operand.const (Value.int IntKind.i64 2000)) 3, none⟩,
    ⟨some 6, Op.assign (Operand.tmp 37), none⟩])
  .ret))
  .skip))
  (.seq (.seq (.reg [⟨some 38, Op.move (Operand.tmp 7), none⟩,
    ⟨some 39, Op.move (Operand.tmp 0), none⟩,
    ⟨some 40, Op.nilCheck (Operand.tmp 39), none⟩,
    ⟨some 41, Op.fieldAddr 54 (Operand.tmp 40) 0, none⟩,
    ⟨some 42, Op.fieldAddr 23 (Operand.tmp 41) 3, none⟩,
    ⟨some 43, Op.load 3 (Operand.tmp 42), none⟩,
    ⟨some 44, Op.binOp BinOp.gtr 3 (Operand.tmp 38) (Operand.tmp 43) 3, none⟩])
  (.cond (Operand.tmp 44) (.seq (.reg [⟨some 6, Op.assign (Operand.const (Value.bool true)), none⟩])
  .ret)
  .skip))
  (.seq (.seq (.reg [⟨some 45, Op.move (Operand.tmp 2), none⟩,
    ⟨some 46, Op.binOp BinOp.eql 3 (Operand.tmp 45) (Operand.const (Value.int IntKind.i64 1)) 3, none⟩,
    ⟨some 47, Op.move (Operand.tmp 46), none⟩,
    ⟨some 48, Op.move (Operand.tmp 0), some (47, true)⟩,
    ⟨some 49, Op.move (Operand.tmp 1), some (47, true)⟩,
    ⟨some 50, Op.call { callee := Callee.value (Operand.func 49), args := #[Operand.tmp 48, Operand.tmp 49], argTypes := #[52, 24] }, some (47, true)⟩,
    ⟨some 51, Op.unOp UnOp.not 4 (Operand.tmp 50), some (47, true)⟩,
    ⟨some 52, Op.pick (Operand.tmp 47) (Operand.tmp 51) (Operand.const (Value.bool false)), none⟩])
  (.cond (Operand.tmp 52) (.seq (.reg [⟨some 6, Op.assign (Operand.const (Value.bool true)), none⟩])
  .ret)
  .skip))
  (.seq (.seq (.reg [⟨some 53, Op.move (Operand.tmp 0), none⟩,
    ⟨some 54, Op.nilCheck (Operand.tmp 53), none⟩,
    ⟨some 55, Op.fieldAddr 54 (Operand.tmp 54) 1, none⟩,
    ⟨some 56, Op.load 24 (Operand.tmp 55), none⟩,
    ⟨some 57, Op.call { callee := Callee.builtin Builtin.len, args := #[Operand.tmp 56], argTypes := #[24] }, none⟩,
    ⟨some 58, Op.move (Operand.const (Value.int IntKind.i64 0)), none⟩])
  (.block 0 (.loop L26_b0)))
  (.seq (.reg [⟨some 6, Op.assign (Operand.const (Value.bool true)), none⟩])
  .ret)))))))
theorem low26 : Try.f26.body.bind low = some L26 := by kernel_rfl
theorem callm26 {k : Nat} {args : List AV} {H : List AO} {R : AV → List AO → Prop} (h : MX Try.prog k L26 (endM Try.prog k [ResultVar.tmp 6] R) (args ++ List.replicate (73 - args.length) (.v undef)) H) : AFn Try.prog 26 k args H R :=
  AFn_of_MW Try.func26 low26 (by decide) rfl rfl (MX_ok h)
noncomputable def L27_b0 : LC := (.seq (.seq (.reg [⟨some 16, Op.move (Operand.tmp 6), none⟩,
    ⟨some 17, Op.move (Operand.tmp 0), none⟩,
    ⟨some 18, Op.call { callee := Callee.builtin Builtin.len, args := #[Operand.tmp 17], argTypes := #[31] }, none⟩,
    ⟨some 19, Op.binOp BinOp.lss 3 (Operand.tmp 16) (Operand.tmp 18) 3, none⟩])
  (.cond (Operand.tmp 19) .skip
  (.exit 0)))
  (.seq (.block 1 (.seq (.reg [⟨some 22, Op.move (Operand.tmp 0), none⟩,
    ⟨some 23, Op.move (Operand.tmp 6), none⟩,
    ⟨some 24, Op.indexAddr 31 (Operand.tmp 22) (Operand.tmp 23), none⟩,
    ⟨some 25, Op.load 24 (Operand.tmp 24), none⟩,
    ⟨some 7, Op.assign (Operand.tmp 25), none⟩])
  (.seq (.reg [⟨some 26, Op.move (Operand.tmp 1), none⟩,
    ⟨some 27, Op.move (Operand.tmp 7), none⟩,
    ⟨some 28, Op.call { callee := Callee.value (Operand.tmp 26), args := #[Operand.tmp 27], argTypes := #[24] }, none⟩,
    ⟨some 29, Op.unOp UnOp.not 4 (Operand.tmp 28), none⟩])
  (.cond (Operand.tmp 29) (.seq (.reg [⟨some 30, Op.move (Operand.tmp 0), none⟩,
    ⟨some 31, Op.move (Operand.tmp 5), none⟩,
    ⟨some 32, Op.move (Operand.tmp 7), none⟩,
    ⟨some 33, Op.indexAddr 31 (Operand.tmp 30) (Operand.tmp 31), none⟩,
    ⟨none, Op.store 24 (Operand.tmp 33) (Operand.tmp 32), none⟩])
  (.reg [⟨some 34, Op.move (Operand.tmp 5), none⟩,
    ⟨some 35, Op.binOp BinOp.add 3 (Operand.tmp 34) (Operand.const (Value.int IntKind.i64 1)) 3, none⟩,
    ⟨some 5, Op.assign (Operand.tmp 35), none⟩]))
  .skip))))
  (.reg [⟨some 20, Op.move (Operand.tmp 6), none⟩,
    ⟨some 21, Op.binOp BinOp.add 3 (Operand.tmp 20) (Operand.const (Value.int IntKind.i64 1)) 3, none⟩,
    ⟨some 6, Op.assign (Operand.tmp 21), none⟩])))
noncomputable def L27 : LC := (.seq (.reg [⟨some 4, Op.assign (Operand.const (Value.slice none 0 0)), none⟩])
  (.seq (.reg [⟨some 8, Op.move (Operand.tmp 0), none⟩,
    ⟨some 9, Op.move (Operand.tmp 1), none⟩,
    ⟨some 10, Op.call { callee := Callee.value (Operand.func 30), args := #[Operand.tmp 8, Operand.tmp 9], argTypes := #[31, 37] }, none⟩,
    ⟨some 5, Op.assign (Operand.tmp 10), none⟩])
  (.seq (.seq (.reg [⟨some 11, Op.move (Operand.tmp 5), none⟩,
    ⟨some 12, Op.binOp BinOp.eql 3 (Operand.tmp 11) (Operand.const (Value.int IntKind.i64 (-1))) 3, none⟩])
  (.cond (Operand.tmp 12) (.seq (.reg [⟨some 13, Op.move (Operand.tmp 0), none⟩,
    ⟨some 4, Op.assign (Operand.tmp 13), none⟩])
  .ret)
  .skip))
  (.seq (.seq (.reg [⟨some 14, Op.move (Operand.tmp 5), none⟩,
    ⟨some 15, Op.binOp BinOp.add 3 (Operand.tmp 14) (Operand.const (Value.int IntKind.i64 1)) 3, none⟩,
    ⟨some 6, Op.assign (Operand.tmp 15), none⟩])
  (.block 0 (.loop L27_b0)))
  (.seq (.reg [⟨some 36, Op.move (Operand.tmp 0), none⟩,
    ⟨some 37, Op.move (Operand.tmp 5), none⟩,
    ⟨some 38, Op.slice 31 (Operand.tmp 36) (some (Operand.tmp 37)) none none, none⟩,
    ⟨none, Op.call { callee := Callee.builtin Builtin.clear, args := #[Operand.tmp 38], argTypes := #[31] }, none⟩])
  (.seq (.reg [⟨some 39, Op.move (Operand.tmp 0), none⟩,
    ⟨some 40, Op.move (Operand.tmp 5), none⟩,
    ⟨some 41, Op.slice 31 (Operand.tmp 39) none (some (Operand.tmp 40)) none, none⟩,
    ⟨some 4, Op.assign (Operand.tmp 41), none⟩])
  .ret))))))
theorem low27 : Try.f27.body.bind low = some L27 := by kernel_rfl
theorem callm27 {k : Nat} {args : List AV} {H : List AO} {R : AV → List AO → Prop} (h : MX Try.prog k L27 (endM Try.prog k [ResultVar.tmp 4] R) (args ++ List.replicate (42 - args.length) (.v undef)) H) : AFn Try.prog 27 k args H R :=
  AFn_of_MW Try.func27 low27 (by decide) rfl rfl (MX_ok h)
noncomputable def L28 : LC := (.seq (.reg [⟨some 3, Op.assign (Operand.const (Value.bool false)), none⟩])
  (.seq (.reg [⟨some 4, Op.load 23 (Operand.tmp 1), none⟩,
    ⟨some 5, Op.move (Operand.tmp 0), none⟩,
    ⟨some 6, Op.call { callee := Callee.value (Operand.func 29), args := #[Operand.tmp 4, Operand.tmp 5], argTypes := #[23, 24] }, none⟩,
    ⟨some 7, Op.unOp UnOp.not 4 (Operand.tmp 6), none⟩,
    ⟨some 3, Op.assign (Operand.tmp 7), none⟩])
  .ret))
theorem low28 : Try.f28.body.bind low = some L28 := by kernel_rfl
theorem callm28 {k : Nat} {args : List AV} {H : List AO} {R : AV → List AO → Prop} (h : MX Try.prog k L28 (endM Try.prog k [ResultVar.tmp 3] R) (args ++ List.replicate (8 - args.length) (.v undef)) H) : AFn Try.prog 28 k args H R :=
  AFn_of_MW Try.func28 low28 (by decide) rfl rfl (MX_ok h)
theorem callp28 {args : List AV} {r : AV} (h : MX Try.prog 0 L28 (endM Try.prog 0 [ResultVar.tmp 3] (fun v Ho => v = r ∧ Ho = [])) (args ++ List.replicate (8 - args.length) (.v undef)) []) : APure Try.prog 28 args r := APure_of (callm28 h)
noncomputable def d29_3 : Array Oper := drawOps Try.f29 3
def l29_3 : List LOp := [⟨some 11, Op.move (Operand.tmp 1), none⟩,
    ⟨some 12, Op.call { callee := Callee.value (Operand.func 33), args := #[Operand.tmp 11, Operand.const (Value.string { data := #[] })], argTypes := #[24, 9] }, none⟩,
    ⟨some 13, Op.fieldAddr 23 (Operand.tmp 2) 4, none⟩,
    ⟨some 14, Op.load 9 (Operand.tmp 13), none⟩,
    ⟨some 15, Op.call { callee := Callee.value (Operand.func 47), args := #[Operand.tmp 12, Operand.tmp 14], argTypes := #[9, 9] }, none⟩,
    ⟨some 10, Op.move (Operand.tmp 15), none⟩,
    ⟨some 16, Op.extract (Operand.tmp 10) 0, none⟩,
    ⟨some 17, Op.extract (Operand.tmp 10) 1, none⟩,
    ⟨some 5, Op.assign (Operand.tmp 16), none⟩,
    ⟨some 6, Op.assign (Operand.tmp 17), none⟩]
theorem dl29_3 : lowOps d29_3 d29_3.toList = some l29_3 := by kernel_rfl
theorem dx29_3 : lexOK d29_3.toList = true := by kernel_rfl
noncomputable def L29 : LC := (.seq (.reg [⟨some 2, Op.box 23 (Operand.tmp 0), none⟩,
    ⟨some 4, Op.assign (Operand.const (Value.bool false)), none⟩])
  (.seq (.seq (.reg [⟨some 7, Op.fieldAddr 23 (Operand.tmp 2) 4, none⟩,
    ⟨some 8, Op.load 9 (Operand.tmp 7), none⟩,
    ⟨some 9, Op.binOp BinOp.eql 9 (Operand.tmp 8) (Operand.const (Value.string { data := #[] })) 9, none⟩])
  (.cond (Operand.tmp 9) (.seq (.reg [⟨some 4, Op.assign (Operand.const (Value.bool true)), none⟩])
  .ret)
  .skip))
  (.seq (.draw 3 d29_3)
  (.seq (.reg [⟨some 18, Op.move (Operand.tmp 5), none⟩,
    ⟨some 4, Op.assign (Operand.tmp 18), none⟩])
  .ret))))
theorem low29 : Try.f29.body.bind low = some L29 := by kernel_rfl
theorem call29 {args : List AV} {H : List AO} {R : AV → List AO → Prop} (h : LW Try.prog L29 (endL Try.prog [ResultVar.tmp 4] R) (args ++ List.replicate (19 - args.length) (.v undef)) H) : ACall Try.prog 29 args H R :=
  ACall_of_LW Try.func29 low29 (by decide) rfl rfl h
noncomputable def L30_b0 : LC := (.seq (.reg [⟨some 9, Op.binOp BinOp.lss 3 (Operand.tmp 8) (Operand.tmp 7) 3, none⟩])
  (.seq (.cond (Operand.tmp 9) .skip
  (.exit 0))
  (.seq (.block 1 (.seq (.reg [⟨some 10, Op.move (Operand.tmp 8), none⟩,
    ⟨some 5, Op.assign (Operand.tmp 10), none⟩])
  (.seq (.reg [⟨some 11, Op.move (Operand.tmp 1), none⟩,
    ⟨some 12, Op.move (Operand.tmp 0), none⟩,
    ⟨some 13, Op.move (Operand.tmp 5), none⟩,
    ⟨some 14, Op.indexAddr 31 (Operand.tmp 12) (Operand.tmp 13), none⟩,
    ⟨some 15, Op.load 24 (Operand.tmp 14), none⟩,
    ⟨some 16, Op.call { callee := Callee.value (Operand.tmp 11), args := #[Operand.tmp 15], argTypes := #[24] }, none⟩])
  (.cond (Operand.tmp 16) (.seq (.reg [⟨some 17, Op.move (Operand.tmp 5), none⟩,
    ⟨some 4, Op.assign (Operand.tmp 17), none⟩])
  .ret)
  .skip))))
  (.reg [⟨some 18, Op.binOp BinOp.add 3 (Operand.tmp 8) (Operand.const (Value.int IntKind.i64 1)) 3, none⟩,
    ⟨some 8, Op.move (Operand.tmp 18), none⟩]))))
noncomputable def L30 : LC := (.seq (.reg [⟨some 4, Op.assign (Operand.const (Value.int IntKind.i64 0)), none⟩])
  (.seq (.seq (.reg [⟨some 6, Op.move (Operand.tmp 0), none⟩,
    ⟨some 7, Op.call { callee := Callee.builtin Builtin.len, args := #[Operand.tmp 6], argTypes := #[31] }, none⟩,
    ⟨some 8, Op.move (Operand.const (Value.int IntKind.i64 0)), none⟩])
  (.block 0 (.loop L30_b0)))
  (.seq (.reg [⟨some 4, Op.assign (Operand.const (Value.int IntKind.i64 (-1))), none⟩])
  .ret)))
theorem low30 : Try.f30.body.bind low = some L30 := by kernel_rfl
theorem callm30 {k : Nat} {args : List AV} {H : List AO} {R : AV → List AO → Prop} (h : MX Try.prog k L30 (endM Try.prog k [ResultVar.tmp 4] R) (args ++ List.replicate (19 - args.length) (.v undef)) H) : AFn Try.prog 30 k args H R :=
  AFn_of_MW Try.func30 low30 (by decide) rfl rfl (MX_ok h)
theorem callp30 {args : List AV} {r : AV} (h : MX Try.prog 0 L30 (endM Try.prog 0 [ResultVar.tmp 4] (fun v Ho => v = r ∧ Ho = [])) (args ++ List.replicate (19 - args.length) (.v undef)) []) : APure Try.prog 30 args r := APure_of (callm30 h)
noncomputable def L31_b0 : LC := (.seq (.reg [⟨some 9, Op.binOp BinOp.lss 3 (Operand.tmp 8) (Operand.tmp 7) 3, none⟩])
  (.seq (.cond (Operand.tmp 9) .skip
  (.exit 0))
  (.seq (.block 1 (.seq (.reg [⟨some 10, Op.move (Operand.tmp 8), none⟩,
    ⟨some 5, Op.assign (Operand.tmp 10), none⟩])
  (.seq (.reg [⟨some 11, Op.move (Operand.tmp 1), none⟩,
    ⟨some 12, Op.move (Operand.tmp 0), none⟩,
    ⟨some 13, Op.move (Operand.tmp 5), none⟩,
    ⟨some 14, Op.indexAddr 24 (Operand.tmp 12) (Operand.tmp 13), none⟩,
    ⟨some 15, Op.load 9 (Operand.tmp 14), none⟩,
    ⟨some 16, Op.call { callee := Callee.value (Operand.tmp 11), args := #[Operand.tmp 15], argTypes := #[9] }, none⟩])
  (.cond (Operand.tmp 16) (.seq (.reg [⟨some 17, Op.move (Operand.tmp 5), none⟩,
    ⟨some 4, Op.assign (Operand.tmp 17), none⟩])
  .ret)
  .skip))))
  (.reg [⟨some 18, Op.binOp BinOp.add 3 (Operand.tmp 8) (Operand.const (Value.int IntKind.i64 1)) 3, none⟩,
    ⟨some 8, Op.move (Operand.tmp 18), none⟩]))))
noncomputable def L31 : LC := (.seq (.reg [⟨some 4, Op.assign (Operand.const (Value.int IntKind.i64 0)), none⟩])
  (.seq (.seq (.reg [⟨some 6, Op.move (Operand.tmp 0), none⟩,
    ⟨some 7, Op.call { callee := Callee.builtin Builtin.len, args := #[Operand.tmp 6], argTypes := #[24] }, none⟩,
    ⟨some 8, Op.move (Operand.const (Value.int IntKind.i64 0)), none⟩])
  (.block 0 (.loop L31_b0)))
  (.seq (.reg [⟨some 4, Op.assign (Operand.const (Value.int IntKind.i64 (-1))), none⟩])
  .ret)))
theorem low31 : Try.f31.body.bind low = some L31 := by kernel_rfl
theorem call31 {args : List AV} {H : List AO} {R : AV → List AO → Prop} (h : LW Try.prog L31 (endL Try.prog [ResultVar.tmp 4] R) (args ++ List.replicate (19 - args.length) (.v undef)) H) : ACall Try.prog 31 args H R :=
  ACall_of_LW Try.func31 low31 (by decide) rfl rfl h
noncomputable def L32 : LC := (.seq (.reg [⟨some 2, Op.box 23 (Operand.tmp 0), none⟩,
    ⟨some 4, Op.assign (Operand.const (Value.bool false)), none⟩])
  (.seq (.reg [⟨some 6, Op.move (Operand.tmp 1), none⟩,
    ⟨some 7, Op.call { callee := Callee.value (Operand.func 33), args := #[Operand.tmp 6, Operand.const (Value.string { data := #[32] })], argTypes := #[24, 9] }, none⟩,
    ⟨some 8, Op.call { callee := Callee.builtin Builtin.len, args := #[Operand.tmp 7], argTypes := #[9] }, none⟩,
    ⟨some 5, Op.assign (Operand.tmp 8), none⟩])
  (.seq (.reg [⟨some 9, Op.move (Operand.tmp 5), none⟩,
    ⟨some 10, Op.fieldAddr 23 (Operand.tmp 2) 2, none⟩,
    ⟨some 11, Op.load 3 (Operand.tmp 10), none⟩,
    ⟨some 12, Op.binOp BinOp.geq 3 (Operand.tmp 9) (Operand.tmp 11) 3, none⟩,
    ⟨some 13, Op.move (Operand.tmp 12), none⟩,
    ⟨some 14, Op.move (Operand.tmp 5), some (13, true)⟩,
    ⟨some 15, Op.fieldAddr 23 (Operand.tmp 2) 3, some (13, true)⟩,
    ⟨some 16, Op.load 3 (Operand.tmp 15), some (13, true)⟩,
    ⟨some 17, Op.binOp BinOp.leq 3 (Operand.tmp 14) (Operand.tmp 16) 3, some (13, true)⟩,
    ⟨some 18, Op.pick (Operand.tmp 13) (Operand.tmp 17) (Operand.const (Value.bool false)), none⟩,
    ⟨some 4, Op.assign (Operand.tmp 18), none⟩])
  .ret)))
theorem low32 : Try.f32.body.bind low = some L32 := by kernel_rfl
theorem call32 {args : List AV} {H : List AO} {R : AV → List AO → Prop} (h : LW Try.prog L32 (endL Try.prog [ResultVar.tmp 4] R) (args ++ List.replicate (19 - args.length) (.v undef)) H) : ACall Try.prog 32 args H R :=
  ACall_of_LW Try.func32 low32 (by decide) rfl rfl h
noncomputable def L34_b0 : LC := (.seq (.reg [⟨some 12, Op.binOp BinOp.lss 3 (Operand.tmp 11) (Operand.tmp 10) 3, none⟩])
  (.seq (.cond (Operand.tmp 12) .skip
  (.exit 0))
  (.seq (.block 1 (.seq (.reg [⟨some 13, Op.indexAddr 71 (Operand.tmp 9) (Operand.tmp 11), none⟩,
    ⟨some 14, Op.load 5 (Operand.tmp 13), none⟩,
    ⟨some 4, Op.assign (Operand.tmp 14), none⟩])
  (.seq (.reg [⟨some 15, Op.move (Operand.tmp 4), none⟩,
    ⟨some 16, Op.binOp BinOp.lss 5 (Operand.tmp 15) (Operand.const (Value.int IntKind.u8 32)) 5, none⟩,
    ⟨some 17, Op.move (Operand.tmp 16), none⟩,
    ⟨some 18, Op.move (Operand.tmp 4), some (17, false)⟩,
    ⟨some 19, Op.binOp BinOp.gtr 5 (Operand.tmp 18) (Operand.const (Value.int IntKind.u8 126)) 5, some (17, false)⟩,
    ⟨some 20, Op.pick (Operand.tmp 17) (Operand.const (Value.bool true)) (Operand.tmp 19), none⟩])
  (.cond (Operand.tmp 20) (.seq (.reg [⟨some 2, Op.assign (Operand.const (Value.int IntKind.i64 2)), none⟩])
  .ret)
  .skip))))
  (.reg [⟨some 21, Op.binOp BinOp.add 3 (Operand.tmp 11) (Operand.const (Value.int IntKind.i64 1)) 3, none⟩,
    ⟨some 11, Op.move (Operand.tmp 21), none⟩]))))
noncomputable def L34 : LC := (.seq (.reg [⟨some 2, Op.assign (Operand.const (Value.int IntKind.i64 0)), none⟩])
  (.seq (.seq (.reg [⟨some 5, Op.move (Operand.tmp 0), none⟩,
    ⟨some 6, Op.call { callee := Callee.builtin Builtin.len, args := #[Operand.tmp 5], argTypes := #[9] }, none⟩,
    ⟨some 7, Op.binOp BinOp.gtr 3 (Operand.tmp 6) (Operand.const (Value.int IntKind.i64 120)) 3, none⟩])
  (.cond (Operand.tmp 7) (.seq (.reg [⟨some 2, Op.assign (Operand.const (Value.int IntKind.i64 3)), none⟩])
  .ret)
  .skip))
  (.seq (.seq (.reg [⟨some 8, Op.move (Operand.tmp 0), none⟩,
    ⟨some 9, Op.convert 9 71 (Operand.tmp 8), none⟩,
    ⟨some 10, Op.call { callee := Callee.builtin Builtin.len, args := #[Operand.tmp 9], argTypes := #[71] }, none⟩,
    ⟨some 11, Op.move (Operand.const (Value.int IntKind.i64 0)), none⟩])
  (.block 0 (.loop L34_b0)))
  (.seq (.reg [⟨some 2, Op.assign (Operand.const (Value.int IntKind.i64 0)), none⟩])
  .ret))))
theorem low34 : Try.f34.body.bind low = some L34 := by kernel_rfl
theorem call34 {args : List AV} {H : List AO} {R : AV → List AO → Prop} (h : LW Try.prog L34 (endL Try.prog [ResultVar.tmp 2] R) (args ++ List.replicate (22 - args.length) (.v undef)) H) : ACall Try.prog 34 args H R :=
  ACall_of_LW Try.func34 low34 (by decide) rfl rfl h
noncomputable def L35 : LC := (.seq (.reg [⟨some 1, Op.box 23 (Operand.tmp 0), none⟩,
    ⟨some 2, Op.assign (Operand.const (Value.int IntKind.i64 0)), none⟩])
  (.seq (.seq (.reg [⟨some 3, Op.fieldAddr 23 (Operand.tmp 1) 2, none⟩,
    ⟨some 4, Op.load 3 (Operand.tmp 3), none⟩,
    ⟨some 5, Op.binOp BinOp.lss 3 (Operand.tmp 4) (Operand.const (Value.int IntKind.i64 0)) 3, none⟩,
    ⟨some 6, Op.move (Operand.tmp 5), none⟩,
    ⟨some 7, Op.fieldAddr 23 (Operand.tmp 1) 2, some (6, false)⟩,
    ⟨some 8, Op.load 3 (Operand.tmp 7), some (6, false)⟩,
    ⟨some 9, Op.fieldAddr 23 (Operand.tmp 1) 3, some (6, false)⟩,
    ⟨some 10, Op.load 3 (Operand.tmp 9), some (6, false)⟩,
    ⟨some 11, Op.binOp BinOp.gtr 3 (Operand.tmp 8) (Operand.tmp 10) 3, some (6, false)⟩,
    ⟨some 12, Op.pick (Operand.tmp 6) (Operand.const (Value.bool true)) (Operand.tmp 11), none⟩,
    ⟨some 13, Op.move (Operand.tmp 12), none⟩,
    ⟨some 14, Op.fieldAddr 23 (Operand.tmp 1) 3, some (13, false)⟩,
    ⟨some 15, Op.load 3 (Operand.tmp 14), some (13, false)⟩,
    ⟨some 16, Op.binOp BinOp.gtr 3 (Operand.tmp 15) (Operand.const (Value.int IntKind.i64 30)) 3, some (13, false)⟩,
    ⟨some 17, Op.pick (Operand.tmp 13) (Operand.const (Value.bool true)) (Operand.tmp 16), none⟩])
  (.cond (Operand.tmp 17) (.seq (.reg [⟨some 2, Op.assign (Operand.const (Value.int IntKind.i64 6)), none⟩])
  .ret)
  .skip))
  (.seq (.reg [⟨some 18, Op.fieldAddr 23 (Operand.tmp 1) 4, none⟩,
    ⟨some 19, Op.load 9 (Operand.tmp 18), none⟩,
    ⟨some 20, Op.call { callee := Callee.value (Operand.func 53), args := #[Operand.tmp 19], argTypes := #[9] }, none⟩,
    ⟨some 2, Op.assign (Operand.tmp 20), none⟩])
  .ret)))
theorem low35 : Try.f35.body.bind low = some L35 := by kernel_rfl
theorem call35 {args : List AV} {H : List AO} {R : AV → List AO → Prop} (h : LW Try.prog L35 (endL Try.prog [ResultVar.tmp 2] R) (args ++ List.replicate (21 - args.length) (.v undef)) H) : ACall Try.prog 35 args H R :=
  ACall_of_LW Try.func35 low35 (by decide) rfl rfl h
noncomputable def L36_b0 : LC := (.seq (.seq (.reg [⟨some 9, Op.move (Operand.tmp 3), none⟩,
    ⟨some 10, Op.move (Operand.tmp 0), none⟩,
    ⟨some 11, Op.call { callee := Callee.builtin Builtin.len, args := #[Operand.tmp 10], argTypes := #[9] }, none⟩,
    ⟨some 12, Op.binOp BinOp.lss 3 (Operand.tmp 9) (Operand.tmp 11) 3, none⟩])
  (.cond (Operand.tmp 12) .skip
  (.exit 0)))
  (.seq (.block 1 (.seq (.reg [⟨some 15, Op.move (Operand.tmp 0), none⟩,
    ⟨some 16, Op.move (Operand.tmp 3), none⟩,
    ⟨some 17, Op.index 9 (Operand.tmp 15) (Operand.tmp 16), none⟩,
    ⟨some 18, Op.call { callee := Callee.value (Operand.func 54), args := #[Operand.tmp 17], argTypes := #[5] }, none⟩,
    ⟨some 19, Op.unOp UnOp.not 4 (Operand.tmp 18), none⟩])
  (.cond (Operand.tmp 19) (.seq (.reg [⟨some 2, Op.assign (Operand.const (Value.int IntKind.i64 2)), none⟩])
  .ret)
  .skip)))
  (.reg [⟨some 13, Op.move (Operand.tmp 3), none⟩,
    ⟨some 14, Op.binOp BinOp.add 3 (Operand.tmp 13) (Operand.const (Value.int IntKind.i64 1)) 3, none⟩,
    ⟨some 3, Op.assign (Operand.tmp 14), none⟩])))
noncomputable def L36 : LC := (.seq (.reg [⟨some 2, Op.assign (Operand.const (Value.int IntKind.i64 0)), none⟩])
  (.seq (.seq (.reg [⟨some 4, Op.move (Operand.tmp 0), none⟩,
    ⟨some 5, Op.binOp BinOp.eql 9 (Operand.tmp 4) (Operand.const (Value.string { data := #[] })) 9, none⟩])
  (.cond (Operand.tmp 5) (.seq (.reg [⟨some 2, Op.assign (Operand.const (Value.int IntKind.i64 7)), none⟩])
  .ret)
  .skip))
  (.seq (.seq (.reg [⟨some 6, Op.move (Operand.tmp 0), none⟩,
    ⟨some 7, Op.call { callee := Callee.builtin Builtin.len, args := #[Operand.tmp 6], argTypes := #[9] }, none⟩,
    ⟨some 8, Op.binOp BinOp.gtr 3 (Operand.tmp 7) (Operand.const (Value.int IntKind.i64 16)) 3, none⟩])
  (.cond (Operand.tmp 8) (.seq (.reg [⟨some 2, Op.assign (Operand.const (Value.int IntKind.i64 3)), none⟩])
  .ret)
  .skip))
  (.seq (.seq (.reg [⟨some 3, Op.assign (Operand.const (Value.int IntKind.i64 0)), none⟩])
  (.block 0 (.loop L36_b0)))
  (.seq (.reg [⟨some 2, Op.assign (Operand.const (Value.int IntKind.i64 0)), none⟩])
  .ret)))))
theorem low36 : Try.f36.body.bind low = some L36 := by kernel_rfl
theorem call36 {args : List AV} {H : List AO} {R : AV → List AO → Prop} (h : LW Try.prog L36 (endL Try.prog [ResultVar.tmp 2] R) (args ++ List.replicate (20 - args.length) (.v undef)) H) : ACall Try.prog 36 args H R :=
  ACall_of_LW Try.func36 low36 (by decide) rfl rfl h
noncomputable def L37 : LC := (.seq (.reg [⟨some 2, Op.box 23 (Operand.tmp 0), none⟩,
    ⟨some 4, Op.assign (Operand.const (Value.bool false)), none⟩])
  (.seq (.reg [⟨some 6, Op.move (Operand.tmp 1), none⟩,
    ⟨some 7, Op.call { callee := Callee.value (Operand.func 39), args := #[Operand.tmp 6, Operand.const (Value.string { data := #[32] })], argTypes := #[24, 9] }, none⟩,
    ⟨some 8, Op.call { callee := Callee.builtin Builtin.len, args := #[Operand.tmp 7], argTypes := #[9] }, none⟩,
    ⟨some 5, Op.assign (Operand.tmp 8), none⟩])
  (.seq (.reg [⟨some 9, Op.move (Operand.tmp 5), none⟩,
    ⟨some 10, Op.fieldAddr 23 (Operand.tmp 2) 2, none⟩,
    ⟨some 11, Op.load 3 (Operand.tmp 10), none⟩,
    ⟨some 12, Op.binOp BinOp.geq 3 (Operand.tmp 9) (Operand.tmp 11) 3, none⟩,
    ⟨some 13, Op.move (Operand.tmp 12), none⟩,
    ⟨some 14, Op.move (Operand.tmp 5), some (13, true)⟩,
    ⟨some 15, Op.fieldAddr 23 (Operand.tmp 2) 3, some (13, true)⟩,
    ⟨some 16, Op.load 3 (Operand.tmp 15), some (13, true)⟩,
    ⟨some 17, Op.binOp BinOp.leq 3 (Operand.tmp 14) (Operand.tmp 16) 3, some (13, true)⟩,
    ⟨some 18, Op.pick (Operand.tmp 13) (Operand.tmp 17) (Operand.const (Value.bool false)), none⟩,
    ⟨some 4, Op.assign (Operand.tmp 18), none⟩])
  .ret)))
theorem low37 : Try.f37.body.bind low = some L37 := by kernel_rfl
theorem call37 {args : List AV} {H : List AO} {R : AV → List AO → Prop} (h : LW Try.prog L37 (endL Try.prog [ResultVar.tmp 4] R) (args ++ List.replicate (19 - args.length) (.v undef)) H) : ACall Try.prog 37 args H R :=
  ACall_of_LW Try.func37 low37 (by decide) rfl rfl h
noncomputable def d38_1 : Array Oper := drawOps Try.f38 1
def l38_1 : List LOp := [⟨some 8, Op.move (Operand.tmp 1), none⟩,
    ⟨some 9, Op.call { callee := Callee.value (Operand.func 39), args := #[Operand.tmp 8, Operand.const (Value.string { data := #[] })], argTypes := #[24, 9] }, none⟩,
    ⟨some 10, Op.fieldAddr 23 (Operand.tmp 2) 4, none⟩,
    ⟨some 11, Op.load 9 (Operand.tmp 10), none⟩,
    ⟨some 12, Op.call { callee := Callee.value (Operand.func 55), args := #[Operand.tmp 9, Operand.tmp 11], argTypes := #[9, 9] }, none⟩,
    ⟨some 7, Op.move (Operand.tmp 12), none⟩,
    ⟨some 13, Op.extract (Operand.tmp 7) 0, none⟩,
    ⟨some 14, Op.extract (Operand.tmp 7) 1, none⟩,
    ⟨some 5, Op.assign (Operand.tmp 13), none⟩,
    ⟨some 6, Op.assign (Operand.tmp 14), none⟩]
theorem dl38_1 : lowOps d38_1 d38_1.toList = some l38_1 := by kernel_rfl
theorem dx38_1 : lexOK d38_1.toList = true := by kernel_rfl
noncomputable def L38 : LC := (.seq (.reg [⟨some 2, Op.box 23 (Operand.tmp 0), none⟩,
    ⟨some 4, Op.assign (Operand.const (Value.bool false)), none⟩])
  (.seq (.draw 1 d38_1)
  (.seq (.reg [⟨some 15, Op.fieldAddr 23 (Operand.tmp 2) 4, none⟩,
    ⟨some 16, Op.load 9 (Operand.tmp 15), none⟩,
    ⟨some 17, Op.binOp BinOp.eql 9 (Operand.tmp 16) (Operand.const (Value.string { data := #[] })) 9, none⟩,
    ⟨some 18, Op.move (Operand.tmp 17), none⟩,
    ⟨some 19, Op.move (Operand.tmp 5), some (18, false)⟩,
    ⟨some 20, Op.pick (Operand.tmp 18) (Operand.const (Value.bool true)) (Operand.tmp 19), none⟩,
    ⟨some 4, Op.assign (Operand.tmp 20), none⟩])
  .ret)))
theorem low38 : Try.f38.body.bind low = some L38 := by kernel_rfl
theorem call38 {args : List AV} {H : List AO} {R : AV → List AO → Prop} (h : LW Try.prog L38 (endL Try.prog [ResultVar.tmp 4] R) (args ++ List.replicate (21 - args.length) (.v undef)) H) : ACall Try.prog 38 args H R :=
  ACall_of_LW Try.func38 low38 (by decide) rfl rfl h
noncomputable def L39_b0 : LC := (.seq (.seq (.reg [⟨some 7, Op.move (Operand.tmp 6), none⟩,
    ⟨some 8, Op.move (Operand.tmp 0), none⟩,
    ⟨some 9, Op.call { callee := Callee.builtin Builtin.len, args := #[Operand.tmp 8], argTypes := #[24] }, none⟩,
    ⟨some 10, Op.binOp BinOp.lss 3 (Operand.tmp 7) (Operand.tmp 9) 3, none⟩])
  (.cond (Operand.tmp 10) .skip
  (.exit 0)))
  (.seq (.block 1 (.seq (.seq (.reg [⟨some 13, Op.move (Operand.tmp 6), none⟩,
    ⟨some 14, Op.binOp BinOp.gtr 3 (Operand.tmp 13) (Operand.const (Value.int IntKind.i64 0)) 3, none⟩])
  (.cond (Operand.tmp 14) (.reg [⟨some 15, Op.move (Operand.tmp 5), none⟩,
    ⟨some 16, Op.move (Operand.tmp 1), none⟩,
    ⟨some 17, Op.binOp BinOp.add 9 (Operand.tmp 15) (Operand.tmp 16) 9, none⟩,
    ⟨some 5, Op.assign (Operand.tmp 17), none⟩])
  .skip))
  (.reg [⟨some 18, Op.move (Operand.tmp 5), none⟩,
    ⟨some 19, Op.move (Operand.tmp 0), none⟩,
    ⟨some 20, Op.move (Operand.tmp 6), none⟩,
    ⟨some 21, Op.indexAddr 24 (Operand.tmp 19) (Operand.tmp 20), none⟩,
    ⟨some 22, Op.load 9 (Operand.tmp 21), none⟩,
    ⟨some 23, Op.binOp BinOp.add 9 (Operand.tmp 18) (Operand.tmp 22) 9, none⟩,
    ⟨some 5, Op.assign (Operand.tmp 23), none⟩])))
  (.reg [⟨some 11, Op.move (Operand.tmp 6), none⟩,
    ⟨some 12, Op.binOp BinOp.add 3 (Operand.tmp 11) (Operand.const (Value.int IntKind.i64 1)) 3, none⟩,
    ⟨some 6, Op.assign (Operand.tmp 12), none⟩])))
noncomputable def L39 : LC := (.seq (.reg [⟨some 4, Op.assign (Operand.const (Value.string { data := #[] })), none⟩])
  (.seq (.reg [⟨some 5, Op.assign (Operand.const (Value.string { data := #[] })), none⟩])
  (.seq (.seq (.reg [⟨some 6, Op.assign (Operand.const (Value.int IntKind.i64 0)), none⟩])
  (.block 0 (.loop L39_b0)))
  (.seq (.reg [⟨some 24, Op.move (Operand.tmp 5), none⟩,
    ⟨some 4, Op.assign (Operand.tmp 24), none⟩])
  .ret))))
theorem low39 : Try.f39.body.bind low = some L39 := by kernel_rfl
theorem call39 {args : List AV} {H : List AO} {R : AV → List AO → Prop} (h : LW Try.prog L39 (endL Try.prog [ResultVar.tmp 4] R) (args ++ List.replicate (25 - args.length) (.v undef)) H) : ACall Try.prog 39 args H R :=
  ACall_of_LW Try.func39 low39 (by decide) rfl rfl h
noncomputable def L40_b0 : LC := (.seq (.seq (.reg [⟨some 7, Op.move (Operand.tmp 3), none⟩,
    ⟨some 8, Op.move (Operand.tmp 0), none⟩,
    ⟨some 9, Op.call { callee := Callee.builtin Builtin.len, args := #[Operand.tmp 8], argTypes := #[9] }, none⟩,
    ⟨some 10, Op.binOp BinOp.lss 3 (Operand.tmp 7) (Operand.tmp 9) 3, none⟩])
  (.cond (Operand.tmp 10) .skip
  (.exit 0)))
  (.seq (.block 1 (.seq (.reg [⟨some 13, Op.move (Operand.tmp 0), none⟩,
    ⟨some 14, Op.move (Operand.tmp 3), none⟩,
    ⟨some 15, Op.index 9 (Operand.tmp 13) (Operand.tmp 14), none⟩,
    ⟨some 16, Op.binOp BinOp.lss 5 (Operand.tmp 15) (Operand.const (Value.int IntKind.u8 32)) 5, none⟩,
    ⟨some 17, Op.move (Operand.tmp 16), none⟩,
    ⟨some 18, Op.move (Operand.tmp 0), some (17, false)⟩,
    ⟨some 19, Op.move (Operand.tmp 3), some (17, false)⟩,
    ⟨some 20, Op.index 9 (Operand.tmp 18) (Operand.tmp 19), some (17, false)⟩,
    ⟨some 21, Op.binOp BinOp.gtr 5 (Operand.tmp 20) (Operand.const (Value.int IntKind.u8 126)) 5, some (17, false)⟩,
    ⟨some 22, Op.pick (Operand.tmp 17) (Operand.const (Value.bool true)) (Operand.tmp 21), none⟩])
  (.cond (Operand.tmp 22) (.seq (.reg [⟨some 2, Op.assign (Operand.const (Value.int IntKind.i64 2)), none⟩])
  .ret)
  .skip)))
  (.reg [⟨some 11, Op.move (Operand.tmp 3), none⟩,
    ⟨some 12, Op.binOp BinOp.add 3 (Operand.tmp 11) (Operand.const (Value.int IntKind.i64 1)) 3, none⟩,
    ⟨some 3, Op.assign (Operand.tmp 12), none⟩])))
noncomputable def L40 : LC := (.seq (.reg [⟨some 2, Op.assign (Operand.const (Value.int IntKind.i64 0)), none⟩])
  (.seq (.seq (.reg [⟨some 4, Op.move (Operand.tmp 0), none⟩,
    ⟨some 5, Op.call { callee := Callee.builtin Builtin.len, args := #[Operand.tmp 4], argTypes := #[9] }, none⟩,
    ⟨some 6, Op.binOp BinOp.gtr 3 (Operand.tmp 5) (Operand.const (Value.int IntKind.i64 120)) 3, none⟩])
  (.cond (Operand.tmp 6) (.seq (.reg [⟨some 2, Op.assign (Operand.const (Value.int IntKind.i64 3)), none⟩])
  .ret)
  .skip))
  (.seq (.seq (.reg [⟨some 3, Op.assign (Operand.const (Value.int IntKind.i64 0)), none⟩])
  (.block 0 (.loop L40_b0)))
  (.seq (.reg [⟨some 2, Op.assign (Operand.const (Value.int IntKind.i64 0)), none⟩])
  .ret))))
theorem low40 : Try.f40.body.bind low = some L40 := by kernel_rfl
theorem call40 {args : List AV} {H : List AO} {R : AV → List AO → Prop} (h : LW Try.prog L40 (endL Try.prog [ResultVar.tmp 2] R) (args ++ List.replicate (23 - args.length) (.v undef)) H) : ACall Try.prog 40 args H R :=
  ACall_of_LW Try.func40 low40 (by decide) rfl rfl h
noncomputable def d41_9 : Array Oper := drawOps Try.f41 9
def l41_9 : List LOp := [⟨some 27, Op.move (Operand.tmp 4), none⟩,
    ⟨some 28, Op.binOp BinOp.gtr 3 (Operand.tmp 27) (Operand.const (Value.int IntKind.i64 0)) 3, none⟩,
    ⟨some 29, Op.move (Operand.tmp 28), none⟩,
    ⟨some 30, Op.fieldAddr 26 (Operand.tmp 1) 0, some (29, true)⟩,
    ⟨some 31, Op.load 24 (Operand.tmp 30), some (29, true)⟩,
    ⟨some 32, Op.move (Operand.tmp 4), some (29, true)⟩,
    ⟨some 33, Op.indexAddr 24 (Operand.tmp 31) (Operand.tmp 32), some (29, true)⟩,
    ⟨some 34, Op.load 9 (Operand.tmp 33), some (29, true)⟩,
    ⟨some 35, Op.fieldAddr 26 (Operand.tmp 1) 0, some (29, true)⟩,
    ⟨some 36, Op.load 24 (Operand.tmp 35), some (29, true)⟩,
    ⟨some 37, Op.move (Operand.tmp 4), some (29, true)⟩,
    ⟨some 38, Op.binOp BinOp.sub 3 (Operand.tmp 37) (Operand.const (Value.int IntKind.i64 1)) 3, some (29, true)⟩,
    ⟨some 39, Op.indexAddr 24 (Operand.tmp 36) (Operand.tmp 38), some (29, true)⟩,
    ⟨some 40, Op.load 9 (Operand.tmp 39), some (29, true)⟩,
    ⟨some 41, Op.binOp BinOp.leq 9 (Operand.tmp 34) (Operand.tmp 40) 9, some (29, true)⟩,
    ⟨some 42, Op.pick (Operand.tmp 29) (Operand.tmp 41) (Operand.const (Value.bool false)), none⟩]
theorem dl41_9 : lowOps d41_9 d41_9.toList = some l41_9 := by kernel_rfl
theorem dx41_9 : lexOK d41_9.toList = true := by kernel_rfl
noncomputable def L41_b0 : LC := (.seq (.seq (.reg [⟨some 10, Op.move (Operand.tmp 4), none⟩,
    ⟨some 11, Op.fieldAddr 26 (Operand.tmp 1) 0, none⟩,
    ⟨some 12, Op.load 24 (Operand.tmp 11), none⟩,
    ⟨some 13, Op.call { callee := Callee.builtin Builtin.len, args := #[Operand.tmp 12], argTypes := #[24] }, none⟩,
    ⟨some 14, Op.binOp BinOp.lss 3 (Operand.tmp 10) (Operand.tmp 13) 3, none⟩])
  (.cond (Operand.tmp 14) .skip
  (.exit 0)))
  (.seq (.block 1 (.seq (.seq (.reg [⟨some 17, Op.fieldAddr 26 (Operand.tmp 1) 0, none⟩,
    ⟨some 18, Op.load 24 (Operand.tmp 17), none⟩,
    ⟨some 19, Op.move (Operand.tmp 4), none⟩,
    ⟨some 20, Op.indexAddr 24 (Operand.tmp 18) (Operand.tmp 19), none⟩,
    ⟨some 21, Op.load 9 (Operand.tmp 20), none⟩,
    ⟨some 22, Op.call { callee := Callee.value (Operand.func 36), args := #[Operand.tmp 21], argTypes := #[9] }, none⟩,
    ⟨some 5, Op.assign (Operand.tmp 22), none⟩])
  (.seq (.reg [⟨some 23, Op.move (Operand.tmp 5), none⟩,
    ⟨some 24, Op.binOp BinOp.neq 32 (Operand.tmp 23) (Operand.const (Value.int IntKind.i64 0)) 32, none⟩])
  (.cond (Operand.tmp 24) (.seq (.reg [⟨some 25, Op.move (Operand.tmp 4), none⟩,
    ⟨some 26, Op.move (Operand.tmp 5), none⟩,
    ⟨some 2, Op.assign (Operand.tmp 25), none⟩,
    ⟨some 3, Op.assign (Operand.tmp 26), none⟩])
  .ret)
  .skip)))
  (.seq (.draw 9 d41_9)
  (.cond (Operand.tmp 42) (.seq (.reg [⟨some 43, Op.move (Operand.tmp 4), none⟩,
    ⟨some 2, Op.assign (Operand.tmp 43), none⟩,
    ⟨some 3, Op.assign (Operand.const (Value.int IntKind.i64 18)), none⟩])
  .ret)
  .skip))))
  (.reg [⟨some 15, Op.move (Operand.tmp 4), none⟩,
    ⟨some 16, Op.binOp BinOp.add 3 (Operand.tmp 15) (Operand.const (Value.int IntKind.i64 1)) 3, none⟩,
    ⟨some 4, Op.assign (Operand.tmp 16), none⟩])))
noncomputable def L41 : LC := (.seq (.reg [⟨some 1, Op.box 26 (Operand.tmp 0), none⟩,
    ⟨some 2, Op.assign (Operand.const (Value.int IntKind.i64 0)), none⟩,
    ⟨some 3, Op.assign (Operand.const (Value.int IntKind.i64 0)), none⟩])
  (.seq (.seq (.reg [⟨some 6, Op.fieldAddr 26 (Operand.tmp 1) 0, none⟩,
    ⟨some 7, Op.load 24 (Operand.tmp 6), none⟩,
    ⟨some 8, Op.call { callee := Callee.builtin Builtin.len, args := #[Operand.tmp 7], argTypes := #[24] }, none⟩,
    ⟨some 9, Op.binOp BinOp.gtr 3 (Operand.tmp 8) (Operand.const (Value.int IntKind.i64 400)) 3, none⟩])
  (.cond (Operand.tmp 9) (.seq (.reg [⟨some 2, Op.assign (Operand.const (Value.int IntKind.i64 (-1))), none⟩,
    ⟨some 3, Op.assign (Operand.const (Value.int IntKind.i64 3)), none⟩])
  .ret)
  .skip))
  (.seq (.seq (.reg [⟨some 4, Op.assign (Operand.const (Value.int IntKind.i64 0)), none⟩])
  (.block 0 (.loop L41_b0)))
  (.seq (.reg [⟨some 2, Op.assign (Operand.const (Value.int IntKind.i64 (-1))), none⟩,
    ⟨some 3, Op.assign (Operand.const (Value.int IntKind.i64 0)), none⟩])
  .ret))))
theorem low41 : Try.f41.body.bind low = some L41 := by kernel_rfl
theorem call41 {args : List AV} {H : List AO} {R : AV → List AO → Prop} (h : LW Try.prog L41 (endL Try.prog [ResultVar.tmp 2, ResultVar.tmp 3] R) (args ++ List.replicate (44 - args.length) (.v undef)) H) : ACall Try.prog 41 args H R :=
  ACall_of_LW Try.func41 low41 (by decide) rfl rfl h
noncomputable def L42_b0 : LC := (.seq (.seq (.reg [⟨some 12, Op.move (Operand.tmp 8), none⟩,
    ⟨some 13, Op.binOp BinOp.leq 3 (Operand.tmp 12) (Operand.const (Value.int IntKind.i64 3)) 3, none⟩])
  (.cond (Operand.tmp 13) .skip
  (.exit 0)))
  (.seq (.block 1 (.reg [⟨some 16, Op.load 23 (Operand.tmp 2), none⟩,
    ⟨some 17, Op.fieldAddr 26 (Operand.tmp 3) 0, none⟩,
    ⟨some 18, Op.load 24 (Operand.tmp 17), none⟩,
    ⟨some 19, Op.move (Operand.tmp 7), none⟩,
    ⟨some 20, Op.move (Operand.tmp 8), none⟩,
    ⟨some 21, Op.move (Operand.tmp 6), none⟩,
    ⟨some 22, Op.call { callee := Callee.value (Operand.func 57), args := #[Operand.tmp 16, Operand.tmp 18, Operand.tmp 19, Operand.const (Value.slice none 0 0), Operand.tmp 20, Operand.tmp 21], argTypes := #[23, 24, 81, 24, 3, 31] }, none⟩,
    ⟨some 6, Op.assign (Operand.tmp 22), none⟩]))
  (.reg [⟨some 14, Op.move (Operand.tmp 8), none⟩,
    ⟨some 15, Op.binOp BinOp.add 3 (Operand.tmp 14) (Operand.const (Value.int IntKind.i64 1)) 3, none⟩,
    ⟨some 8, Op.assign (Operand.tmp 15), none⟩])))
noncomputable def L42 : LC := (.seq (.reg [⟨some 2, Op.box 23 (Operand.tmp 0), none⟩,
    ⟨some 3, Op.box 26 (Operand.tmp 1), none⟩,
    ⟨some 4, Op.assign (Operand.const (Value.slice none 0 0)), none⟩,
    ⟨some 5, Op.assign (Operand.const (Value.int IntKind.i64 0)), none⟩])
  (.seq (.reg [⟨some 6, Op.assign (Operand.const (Value.slice none 0 0)), none⟩])
  (.seq (.reg [⟨some 9, Op.fieldAddr 26 (Operand.tmp 3) 0, none⟩,
    ⟨some 10, Op.load 24 (Operand.tmp 9), none⟩,
    ⟨some 11, Op.call { callee := Callee.value (Operand.func 56), args := #[Operand.tmp 10], argTypes := #[24] }, none⟩,
    ⟨some 7, Op.assign (Operand.tmp 11), none⟩])
  (.seq (.seq (.reg [⟨some 8, Op.assign (Operand.const (Value.int IntKind.i64 0)), none⟩])
  (.block 0 (.loop L42_b0)))
  (.seq (.seq (.reg [⟨some 23, Op.move (Operand.tmp 6), none⟩,
    ⟨some 24, Op.call { callee := Callee.builtin Builtin.len, args := #[Operand.tmp 23], argTypes := #[31] }, none⟩,
    ⟨some 25, Op.binOp BinOp.gtr 3 (Operand.tmp 24) (Operand.const (Value.int IntKind.i64 2000)) 3, none⟩])
  (.cond (Operand.tmp 25) (.seq (.reg [⟨some 4, Op.assign (Operand.const (Value.slice none 0 0)), none⟩,
    ⟨some 5, Op.assign (Operand.const (Value.int IntKind.i64 3)), none⟩])
  .ret)
  .skip))
  (.seq (.reg [⟨some 26, Op.move (Operand.tmp 6), none⟩,
    ⟨some 4, Op.assign (Operand.tmp 26), none⟩,
    ⟨some 5, Op.assign (Operand.const (Value.int IntKind.i64 0)), none⟩])
  .ret))))))
theorem low42 : Try.f42.body.bind low = some L42 := by kernel_rfl
theorem callm42 {k : Nat} {args : List AV} {H : List AO} {R : AV → List AO → Prop} (h : MX Try.prog k L42 (endM Try.prog k [ResultVar.tmp 4, ResultVar.tmp 5] R) (args ++ List.replicate (27 - args.length) (.v undef)) H) : AFn Try.prog 42 k args H R :=
  AFn_of_MW Try.func42 low42 (by decide) rfl rfl (MX_ok h)
noncomputable def d43_6 : Array Oper := drawOps Try.f43 6
def l43_6 : List LOp := [⟨some 17, Op.move (Operand.tmp 0), none⟩,
    ⟨some 18, Op.move (Operand.tmp 5), none⟩,
    ⟨some 19, Op.indexAddr 24 (Operand.tmp 17) (Operand.tmp 18), none⟩,
    ⟨some 20, Op.load 9 (Operand.tmp 19), none⟩,
    ⟨some 21, Op.move (Operand.tmp 1), none⟩,
    ⟨some 22, Op.move (Operand.tmp 5), none⟩,
    ⟨some 23, Op.indexAddr 24 (Operand.tmp 21) (Operand.tmp 22), none⟩,
    ⟨some 24, Op.load 9 (Operand.tmp 23), none⟩,
    ⟨some 25, Op.binOp BinOp.neq 9 (Operand.tmp 20) (Operand.tmp 24) 9, none⟩]
theorem dl43_6 : lowOps d43_6 d43_6.toList = some l43_6 := by kernel_rfl
theorem dx43_6 : lexOK d43_6.toList = true := by kernel_rfl
noncomputable def L43_b0 : LC := (.seq (.seq (.reg [⟨some 11, Op.move (Operand.tmp 5), none⟩,
    ⟨some 12, Op.move (Operand.tmp 0), none⟩,
    ⟨some 13, Op.call { callee := Callee.builtin Builtin.len, args := #[Operand.tmp 12], argTypes := #[24] }, none⟩,
    ⟨some 14, Op.binOp BinOp.lss 3 (Operand.tmp 11) (Operand.tmp 13) 3, none⟩])
  (.cond (Operand.tmp 14) .skip
  (.exit 0)))
  (.seq (.block 1 (.seq (.draw 6 d43_6)
  (.cond (Operand.tmp 25) (.seq (.reg [⟨some 4, Op.assign (Operand.const (Value.bool false)), none⟩])
  .ret)
  .skip)))
  (.reg [⟨some 15, Op.move (Operand.tmp 5), none⟩,
    ⟨some 16, Op.binOp BinOp.add 3 (Operand.tmp 15) (Operand.const (Value.int IntKind.i64 1)) 3, none⟩,
    ⟨some 5, Op.assign (Operand.tmp 16), none⟩])))
noncomputable def L43 : LC := (.seq (.reg [⟨some 4, Op.assign (Operand.const (Value.bool false)), none⟩])
  (.seq (.seq (.reg [⟨some 6, Op.move (Operand.tmp 0), none⟩,
    ⟨some 7, Op.call { callee := Callee.builtin Builtin.len, args := #[Operand.tmp 6], argTypes := #[24] }, none⟩,
    ⟨some 8, Op.move (Operand.tmp 1), none⟩,
    ⟨some 9, Op.call { callee := Callee.builtin Builtin.len, args := #[Operand.tmp 8], argTypes := #[24] }, none⟩,
    ⟨some 10, Op.binOp BinOp.neq 3 (Operand.tmp 7) (Operand.tmp 9) 3, none⟩])
  (.cond (Operand.tmp 10) (.seq (.reg [⟨some 4, Op.assign (Operand.const (Value.bool false)), none⟩])
  .ret)
  .skip))
  (.seq (.seq (.reg [⟨some 5, Op.assign (Operand.const (Value.int IntKind.i64 0)), none⟩])
  (.block 0 (.loop L43_b0)))
  (.seq (.reg [⟨some 4, Op.assign (Operand.const (Value.bool true)), none⟩])
  .ret))))
theorem low43 : Try.f43.body.bind low = some L43 := by kernel_rfl
theorem callm43 {k : Nat} {args : List AV} {H : List AO} {R : AV → List AO → Prop} (h : MX Try.prog k L43 (endM Try.prog k [ResultVar.tmp 4] R) (args ++ List.replicate (26 - args.length) (.v undef)) H) : AFn Try.prog 43 k args H R :=
  AFn_of_MW Try.func43 low43 (by decide) rfl rfl (MX_ok h)
theorem callp43 {args : List AV} {r : AV} (h : MX Try.prog 0 L43 (endM Try.prog 0 [ResultVar.tmp 4] (fun v Ho => v = r ∧ Ho = [])) (args ++ List.replicate (26 - args.length) (.v undef)) []) : APure Try.prog 43 args r := APure_of (callm43 h)
noncomputable def L44 : LC := (.seq (.reg [⟨some 4, Op.assign (Operand.const (Value.int IntKind.i64 0)), none⟩])
  (.seq (.reg [⟨some 5, Op.move (Operand.tmp 0), none⟩,
    ⟨some 6, Op.move (Operand.tmp 1), none⟩,
    ⟨some 7, Op.call { callee := Callee.value (Operand.func 58), args := #[Operand.tmp 5, Operand.tmp 6], argTypes := #[9, 5] }, none⟩,
    ⟨some 4, Op.assign (Operand.tmp 7), none⟩])
  .ret))
theorem low44 : Try.f44.body.bind low = some L44 := by kernel_rfl
theorem call44 {args : List AV} {H : List AO} {R : AV → List AO → Prop} (h : LW Try.prog L44 (endL Try.prog [ResultVar.tmp 4] R) (args ++ List.replicate (8 - args.length) (.v undef)) H) : ACall Try.prog 44 args H R :=
  ACall_of_LW Try.func44 low44 (by decide) rfl rfl h
noncomputable def L45_b0 : LC := (.block 1 (.seq (.reg [⟨some 20, Op.move (Operand.tmp 0), none⟩,
    ⟨some 21, Op.move (Operand.tmp 1), none⟩,
    ⟨some 22, Op.call { callee := Callee.value (Operand.func 61), args := #[Operand.tmp 20, Operand.tmp 21], argTypes := #[9, 9] }, none⟩,
    ⟨some 6, Op.assign (Operand.tmp 22), none⟩])
  (.seq (.seq (.reg [⟨some 23, Op.move (Operand.tmp 6), none⟩,
    ⟨some 24, Op.binOp BinOp.eql 3 (Operand.tmp 23) (Operand.const (Value.int IntKind.i64 (-1))) 3, none⟩])
  (.cond (Operand.tmp 24) (.seq (.reg [⟨some 25, Op.move (Operand.tmp 5), none⟩,
    ⟨some 4, Op.assign (Operand.tmp 25), none⟩])
  .ret)
  .skip))
  (.seq (.reg [⟨some 26, Op.move (Operand.tmp 5), none⟩,
    ⟨some 27, Op.binOp BinOp.add 3 (Operand.tmp 26) (Operand.const (Value.int IntKind.i64 1)) 3, none⟩,
    ⟨some 5, Op.assign (Operand.tmp 27), none⟩])
  (.reg [⟨some 28, Op.move (Operand.tmp 0), none⟩,
    ⟨some 29, Op.move (Operand.tmp 6), none⟩,
    ⟨some 30, Op.move (Operand.tmp 1), none⟩,
    ⟨some 31, Op.call { callee := Callee.builtin Builtin.len, args := #[Operand.tmp 30], argTypes := #[9] }, none⟩,
    ⟨some 32, Op.binOp BinOp.add 3 (Operand.tmp 29) (Operand.tmp 31) 3, none⟩,
    ⟨some 33, Op.slice 9 (Operand.tmp 28) (some (Operand.tmp 32)) none none, none⟩,
    ⟨some 0, Op.assign (Operand.tmp 33), none⟩])))))
noncomputable def L45 : LC := (.seq (.reg [⟨some 4, Op.assign (Operand.const (Value.int IntKind.i64 0)), none⟩])
  (.seq (.seq (.reg [⟨some 7, Op.move (Operand.tmp 1), none⟩,
    ⟨some 8, Op.call { callee := Callee.builtin Builtin.len, args := #[Operand.tmp 7], argTypes := #[9] }, none⟩,
    ⟨some 9, Op.binOp BinOp.eql 3 (Operand.tmp 8) (Operand.const (Value.int IntKind.i64 0)) 3, none⟩])
  (.cond (Operand.tmp 9) (.seq (.reg [⟨some 10, Op.move (Operand.tmp 0), none⟩,
    ⟨some 11, Op.call { callee := Callee.value (Operand.func 59), args := #[Operand.tmp 10], argTypes := #[9] }, none⟩,
    ⟨some 12, Op.binOp BinOp.add 3 (Operand.tmp 11) (Operand.const (Value.int IntKind.i64 1)) 3, none⟩,
    ⟨some 4, Op.assign (Operand.tmp 12), none⟩])
  .ret)
  .skip))
  (.seq (.seq (.reg [⟨some 13, Op.move (Operand.tmp 1), none⟩,
    ⟨some 14, Op.call { callee := Callee.builtin Builtin.len, args := #[Operand.tmp 13], argTypes := #[9] }, none⟩,
    ⟨some 15, Op.binOp BinOp.eql 3 (Operand.tmp 14) (Operand.const (Value.int IntKind.i64 1)) 3, none⟩])
  (.cond (Operand.tmp 15) (.seq (.reg [⟨some 16, Op.move (Operand.tmp 0), none⟩,
    ⟨some 17, Op.move (Operand.tmp 1), none⟩,
    ⟨some 18, Op.index 9 (Operand.tmp 17) (Operand.const (Value.int IntKind.i64 0)), none⟩,
    ⟨some 19, Op.call { callee := Callee.value (Operand.func 60), args := #[Operand.tmp 16, Operand.tmp 18], argTypes := #[9, 5] }, none⟩,
    ⟨some 4, Op.assign (Operand.tmp 19), none⟩])
  .ret)
  .skip))
  (.seq (.reg [⟨some 5, Op.assign (Operand.const (Value.int IntKind.i64 0)), none⟩])
  (.block 0 (.loop L45_b0))))))
theorem low45 : Try.f45.body.bind low = some L45 := by kernel_rfl
theorem call45 {args : List AV} {H : List AO} {R : AV → List AO → Prop} (h : LW Try.prog L45 (endL Try.prog [ResultVar.tmp 4] R) (args ++ List.replicate (34 - args.length) (.v undef)) H) : ACall Try.prog 45 args H R :=
  ACall_of_LW Try.func45 low45 (by decide) rfl rfl h
noncomputable def L46 : LC := (.seq (.reg [⟨some 2, Op.alloc 23, none⟩,
    ⟨some 3, Op.assign (Operand.const (Value.bool false)), none⟩])
  (.seq (.reg [⟨some 15, Op.move (Operand.tmp 0), none⟩,
    ⟨some 16, Op.call { callee := Callee.value (Operand.func 62), args := #[Operand.tmp 15, Operand.const (Value.string { data := #[45] })], argTypes := #[9, 9] }, none⟩,
    ⟨some 14, Op.move (Operand.tmp 16), none⟩,
    ⟨some 17, Op.extract (Operand.tmp 14) 0, none⟩,
    ⟨some 18, Op.extract (Operand.tmp 14) 1, none⟩,
    ⟨some 19, Op.extract (Operand.tmp 14) 2, none⟩,
    ⟨some 4, Op.assign (Operand.tmp 17), none⟩,
    ⟨some 5, Op.assign (Operand.tmp 18), none⟩,
    ⟨some 6, Op.assign (Operand.tmp 19), none⟩])
  (.seq (.seq (.reg [⟨some 20, Op.move (Operand.tmp 6), none⟩,
    ⟨some 21, Op.unOp UnOp.not 4 (Operand.tmp 20), none⟩])
  (.cond (Operand.tmp 21) (.seq (.reg [⟨some 22, Op.build 23 #[], none⟩,
    ⟨none, Op.store 23 (Operand.tmp 2) (Operand.tmp 22), none⟩,
    ⟨some 3, Op.assign (Operand.const (Value.bool false)), none⟩])
  .ret)
  .skip))
  (.seq (.reg [⟨some 24, Op.move (Operand.tmp 5), none⟩,
    ⟨some 25, Op.call { callee := Callee.value (Operand.func 62), args := #[Operand.tmp 24, Operand.const (Value.string { data := #[32] })], argTypes := #[9, 9] }, none⟩,
    ⟨some 23, Op.move (Operand.tmp 25), none⟩,
    ⟨some 26, Op.extract (Operand.tmp 23) 0, none⟩,
    ⟨some 27, Op.extract (Operand.tmp 23) 1, none⟩,
    ⟨some 28, Op.extract (Operand.tmp 23) 2, none⟩,
    ⟨some 7, Op.assign (Operand.tmp 26), none⟩,
    ⟨some 8, Op.assign (Operand.tmp 27), none⟩,
    ⟨some 9, Op.assign (Operand.tmp 28), none⟩])
  (.seq (.reg [⟨some 30, Op.move (Operand.tmp 4), none⟩,
    ⟨some 31, Op.call { callee := Callee.value (Operand.func 63), args := #[Operand.tmp 30], argTypes := #[9] }, none⟩,
    ⟨some 29, Op.move (Operand.tmp 31), none⟩,
    ⟨some 32, Op.extract (Operand.tmp 29) 0, none⟩,
    ⟨some 33, Op.extract (Operand.tmp 29) 1, none⟩,
    ⟨some 10, Op.assign (Operand.tmp 32), none⟩,
    ⟨some 11, Op.assign (Operand.tmp 33), none⟩])
  (.seq (.reg [⟨some 35, Op.move (Operand.tmp 7), none⟩,
    ⟨some 36, Op.call { callee := Callee.value (Operand.func 63), args := #[Operand.tmp 35], argTypes := #[9] }, none⟩,
    ⟨some 34, Op.move (Operand.tmp 36), none⟩,
    ⟨some 37, Op.extract (Operand.tmp 34) 0, none⟩,
    ⟨some 38, Op.extract (Operand.tmp 34) 1, none⟩,
    ⟨some 12, Op.assign (Operand.tmp 37), none⟩,
    ⟨some 13, Op.assign (Operand.tmp 38), none⟩])
  (.seq (.reg [⟨some 39, Op.move (Operand.tmp 10), none⟩,
    ⟨some 40, Op.move (Operand.tmp 12), none⟩,
    ⟨some 41, Op.move (Operand.tmp 8), none⟩,
    ⟨some 42, Op.build 23 #[(2, Operand.tmp 39), (3, Operand.tmp 40), (4, Operand.tmp 41)], none⟩,
    ⟨some 43, Op.move (Operand.tmp 11), none⟩,
    ⟨some 44, Op.move (Operand.tmp 43), none⟩,
    ⟨some 45, Op.move (Operand.tmp 13), some (44, true)⟩,
    ⟨some 46, Op.pick (Operand.tmp 44) (Operand.tmp 45) (Operand.const (Value.bool false)), none⟩,
    ⟨some 47, Op.move (Operand.tmp 46), none⟩,
    ⟨some 48, Op.move (Operand.tmp 9), some (47, true)⟩,
    ⟨some 49, Op.move (Operand.tmp 8), some (47, true)⟩,
    ⟨some 50, Op.binOp BinOp.neq 9 (Operand.tmp 49) (Operand.const (Value.string { data := #[] })) 9, some (47, true)⟩,
    ⟨some 51, Op.binOp BinOp.eql 4 (Operand.tmp 48) (Operand.tmp 50) 4, some (47, true)⟩,
    ⟨some 52, Op.pick (Operand.tmp 47) (Operand.tmp 51) (Operand.const (Value.bool false)), none⟩,
    ⟨none, Op.store 23 (Operand.tmp 2) (Operand.tmp 42), none⟩,
    ⟨some 3, Op.assign (Operand.tmp 52), none⟩])
  .ret)))))))
theorem low46 : Try.f46.body.bind low = some L46 := by kernel_rfl
theorem callm46 {k : Nat} {args : List AV} {H : List AO} {R : AV → List AO → Prop} (h : MX Try.prog k L46 (endM Try.prog k [ResultVar.cell 2 23, ResultVar.tmp 3] R) (args ++ List.replicate (53 - args.length) (.v undef)) H) : AFn Try.prog 46 k args H R :=
  AFn_of_MW Try.func46 low46 (by decide) rfl rfl (MX_ok h)
theorem callp46 {args : List AV} {r : AV} (h : MX Try.prog 0 L46 (endM Try.prog 0 [ResultVar.cell 2 23, ResultVar.tmp 3] (fun v Ho => v = r ∧ Ho = [])) (args ++ List.replicate (53 - args.length) (.v undef)) []) : APure Try.prog 46 args r := APure_of (callm46 h)
noncomputable def L47 : LC := (.seq (.reg [⟨some 4, Op.assign (Operand.const (Value.bool false)), none⟩,
    ⟨some 5, Op.assign (Operand.const (Value.int IntKind.i64 0)), none⟩])
  (.seq (.seq (.reg [⟨some 7, Op.move (Operand.tmp 1), none⟩,
    ⟨some 8, Op.call { callee := Callee.value (Operand.func 64), args := #[Operand.tmp 7], argTypes := #[9] }, none⟩,
    ⟨some 6, Op.assign (Operand.tmp 8), none⟩])
  (.seq (.reg [⟨some 9, Op.move (Operand.tmp 6), none⟩,
    ⟨some 10, Op.binOp BinOp.neq 32 (Operand.tmp 9) (Operand.const (Value.int IntKind.i64 0)) 32, none⟩])
  (.cond (Operand.tmp 10) (.seq (.reg [⟨some 11, Op.move (Operand.tmp 6), none⟩,
    ⟨some 4, Op.assign (Operand.const (Value.bool false)), none⟩,
    ⟨some 5, Op.assign (Operand.tmp 11), none⟩])
  .ret)
  .skip)))
  (.seq (.reg [⟨some 12, Op.move (Operand.tmp 0), none⟩,
    ⟨some 13, Op.move (Operand.tmp 1), none⟩,
    ⟨some 14, Op.call { callee := Callee.value (Operand.func 65), args := #[Operand.tmp 12, Operand.tmp 13], argTypes := #[9, 9] }, none⟩,
    ⟨some 4, Op.assign (Operand.tmp 14), none⟩,
    ⟨some 5, Op.assign (Operand.const (Value.int IntKind.i64 0)), none⟩])
  .ret)))
theorem low47 : Try.f47.body.bind low = some L47 := by kernel_rfl
theorem call47 {args : List AV} {H : List AO} {R : AV → List AO → Prop} (h : LW Try.prog L47 (endL Try.prog [ResultVar.tmp 4, ResultVar.tmp 5] R) (args ++ List.replicate (15 - args.length) (.v undef)) H) : ACall Try.prog 47 args H R :=
  ACall_of_LW Try.func47 low47 (by decide) rfl rfl h
noncomputable def d48_4 : Array Oper := drawOps Try.f48 4
def l48_4 : List LOp := [⟨some 14, Op.move (Operand.tmp 1), none⟩,
    ⟨some 15, Op.binOp BinOp.gtr 3 (Operand.tmp 14) (Operand.const (Value.int IntKind.i64 0)) 3, none⟩,
    ⟨some 16, Op.move (Operand.tmp 15), none⟩,
    ⟨some 17, Op.move (Operand.tmp 0), some (16, true)⟩,
    ⟨some 18, Op.move (Operand.tmp 1), some (16, true)⟩,
    ⟨some 19, Op.binOp BinOp.sub 3 (Operand.tmp 18) (Operand.const (Value.int IntKind.i64 1)) 3, some (16, true)⟩,
    ⟨some 20, Op.indexAddr 24 (Operand.tmp 17) (Operand.tmp 19), some (16, true)⟩,
    ⟨some 21, Op.load 9 (Operand.tmp 20), some (16, true)⟩,
    ⟨some 22, Op.move (Operand.tmp 0), some (16, true)⟩,
    ⟨some 23, Op.move (Operand.tmp 1), some (16, true)⟩,
    ⟨some 24, Op.indexAddr 24 (Operand.tmp 22) (Operand.tmp 23), some (16, true)⟩,
    ⟨some 25, Op.load 9 (Operand.tmp 24), some (16, true)⟩,
    ⟨some 26, Op.binOp BinOp.geq 9 (Operand.tmp 21) (Operand.tmp 25) 9, some (16, true)⟩,
    ⟨some 27, Op.pick (Operand.tmp 16) (Operand.tmp 26) (Operand.const (Value.bool false)), none⟩]
theorem dl48_4 : lowOps d48_4 d48_4.toList = some l48_4 := by kernel_rfl
theorem dx48_4 : lexOK d48_4.toList = true := by kernel_rfl
noncomputable def L48 : LC := (.seq (.reg [⟨some 4, Op.assign (Operand.const (Value.int IntKind.i64 0)), none⟩])
  (.seq (.seq (.reg [⟨some 6, Op.move (Operand.tmp 0), none⟩,
    ⟨some 7, Op.move (Operand.tmp 1), none⟩,
    ⟨some 8, Op.indexAddr 24 (Operand.tmp 6) (Operand.tmp 7), none⟩,
    ⟨some 9, Op.load 9 (Operand.tmp 8), none⟩,
    ⟨some 10, Op.call { callee := Callee.value (Operand.func 66), args := #[Operand.tmp 9], argTypes := #[9] }, none⟩,
    ⟨some 5, Op.assign (Operand.tmp 10), none⟩])
  (.seq (.reg [⟨some 11, Op.move (Operand.tmp 5), none⟩,
    ⟨some 12, Op.binOp BinOp.neq 32 (Operand.tmp 11) (Operand.const (Value.int IntKind.i64 0)) 32, none⟩])
  (.cond (Operand.tmp 12) (.seq (.reg [⟨some 13, Op.move (Operand.tmp 5), none⟩,
    ⟨some 4, Op.assign (Operand.tmp 13), none⟩])
  .ret)
  .skip)))
  (.seq (.seq (.draw 4 d48_4)
  (.cond (Operand.tmp 27) (.seq (.reg [⟨some 4, Op.assign (Operand.const (Value.int IntKind.i64 18)), none⟩])
  .ret)
  .skip))
  (.seq (.reg [⟨some 4, Op.assign (Operand.const (Value.int IntKind.i64 0)), none⟩])
  .ret))))
theorem low48 : Try.f48.body.bind low = some L48 := by kernel_rfl
theorem call48 {args : List AV} {H : List AO} {R : AV → List AO → Prop} (h : LW Try.prog L48 (endL Try.prog [ResultVar.tmp 4] R) (args ++ List.replicate (28 - args.length) (.v undef)) H) : ACall Try.prog 48 args H R :=
  ACall_of_LW Try.func48 low48 (by decide) rfl rfl h
noncomputable def L49 : LC := (.seq (.reg [⟨some 2, Op.box 52 (Operand.tmp 0), none⟩,
    ⟨some 3, Op.box 24 (Operand.tmp 1), none⟩,
    ⟨some 4, Op.assign (Operand.const (Value.bool false)), none⟩])
  (.seq (.reg [⟨some 5, Op.load 52 (Operand.tmp 2), none⟩,
    ⟨some 6, Op.nilCheck (Operand.tmp 5), none⟩,
    ⟨some 7, Op.fieldAddr 54 (Operand.tmp 6) 1, none⟩,
    ⟨some 8, Op.load 24 (Operand.tmp 7), none⟩,
    ⟨some 9, Op.makeFunc (Fn.func 67) #[] #[Operand.tmp 2, Operand.tmp 3], none⟩,
    ⟨some 10, Op.call { callee := Callee.value (Operand.func 14), args := #[Operand.tmp 8, Operand.tmp 9], argTypes := #[24, 40] }, none⟩,
    ⟨some 4, Op.assign (Operand.tmp 10), none⟩])
  .ret))
theorem low49 : Try.f49.body.bind low = some L49 := by kernel_rfl
theorem callm49 {k : Nat} {args : List AV} {H : List AO} {R : AV → List AO → Prop} (h : MX Try.prog k L49 (endM Try.prog k [ResultVar.tmp 4] R) (args ++ List.replicate (11 - args.length) (.v undef)) H) : AFn Try.prog 49 k args H R :=
  AFn_of_MW Try.func49 low49 (by decide) rfl rfl (MX_ok h)
theorem callp49 {args : List AV} {r : AV} (h : MX Try.prog 0 L49 (endM Try.prog 0 [ResultVar.tmp 4] (fun v Ho => v = r ∧ Ho = [])) (args ++ List.replicate (11 - args.length) (.v undef)) []) : APure Try.prog 49 args r := APure_of (callm49 h)
noncomputable def L53_b0 : LC := (.seq (.seq (.reg [⟨some 8, Op.move (Operand.tmp 4), none⟩,
    ⟨some 9, Op.move (Operand.tmp 0), none⟩,
    ⟨some 10, Op.call { callee := Callee.builtin Builtin.len, args := #[Operand.tmp 9], argTypes := #[9] }, none⟩,
    ⟨some 11, Op.binOp BinOp.lss 3 (Operand.tmp 8) (Operand.tmp 10) 3, none⟩])
  (.cond (Operand.tmp 11) .skip
  (.exit 0)))
  (.seq (.block 1 (.seq (.seq (.reg [⟨some 14, Op.move (Operand.tmp 0), none⟩,
    ⟨some 15, Op.move (Operand.tmp 4), none⟩,
    ⟨some 16, Op.index 9 (Operand.tmp 14) (Operand.tmp 15), none⟩,
    ⟨some 17, Op.binOp BinOp.eql 5 (Operand.tmp 16) (Operand.const (Value.int IntKind.u8 42)) 5, none⟩])
  (.cond (Operand.tmp 17) (.reg [⟨some 18, Op.move (Operand.tmp 3), none⟩,
    ⟨some 19, Op.binOp BinOp.add 3 (Operand.tmp 18) (Operand.const (Value.int IntKind.i64 1)) 3, none⟩,
    ⟨some 3, Op.assign (Operand.tmp 19), none⟩])
  .skip))
  (.seq (.reg [⟨some 20, Op.move (Operand.tmp 0), none⟩,
    ⟨some 21, Op.move (Operand.tmp 4), none⟩,
    ⟨some 22, Op.index 9 (Operand.tmp 20) (Operand.tmp 21), none⟩,
    ⟨some 23, Op.binOp BinOp.neq 5 (Operand.tmp 22) (Operand.const (Value.int IntKind.u8 63)) 5, none⟩,
    ⟨some 24, Op.move (Operand.tmp 23), none⟩,
    ⟨some 25, Op.move (Operand.tmp 0), some (24, true)⟩,
    ⟨some 26, Op.move (Operand.tmp 4), some (24, true)⟩,
    ⟨some 27, Op.index 9 (Operand.tmp 25) (Operand.tmp 26), some (24, true)⟩,
    ⟨some 28, Op.call { callee := Callee.value (Operand.func 54), args := #[Operand.tmp 27], argTypes := #[5] }, some (24, true)⟩,
    ⟨some 29, Op.unOp UnOp.not 4 (Operand.tmp 28), some (24, true)⟩,
    ⟨some 30, Op.pick (Operand.tmp 24) (Operand.tmp 29) (Operand.const (Value.bool false)), none⟩,
    ⟨some 31, Op.move (Operand.tmp 30), none⟩,
    ⟨some 32, Op.move (Operand.tmp 3), some (31, false)⟩,
    ⟨some 33, Op.binOp BinOp.gtr 3 (Operand.tmp 32) (Operand.const (Value.int IntKind.i64 1)) 3, some (31, false)⟩,
    ⟨some 34, Op.pick (Operand.tmp 31) (Operand.const (Value.bool true)) (Operand.tmp 33), none⟩])
  (.cond (Operand.tmp 34) (.seq (.reg [⟨some 2, Op.assign (Operand.const (Value.int IntKind.i64 2)), none⟩])
  .ret)
  .skip))))
  (.reg [⟨some 12, Op.move (Operand.tmp 4), none⟩,
    ⟨some 13, Op.binOp BinOp.add 3 (Operand.tmp 12) (Operand.const (Value.int IntKind.i64 1)) 3, none⟩,
    ⟨some 4, Op.assign (Operand.tmp 13), none⟩])))
noncomputable def L53 : LC := (.seq (.reg [⟨some 2, Op.assign (Operand.const (Value.int IntKind.i64 0)), none⟩])
  (.seq (.seq (.reg [⟨some 5, Op.move (Operand.tmp 0), none⟩,
    ⟨some 6, Op.call { callee := Callee.builtin Builtin.len, args := #[Operand.tmp 5], argTypes := #[9] }, none⟩,
    ⟨some 7, Op.binOp BinOp.gtr 3 (Operand.tmp 6) (Operand.const (Value.int IntKind.i64 40)) 3, none⟩])
  (.cond (Operand.tmp 7) (.seq (.reg [⟨some 2, Op.assign (Operand.const (Value.int IntKind.i64 3)), none⟩])
  .ret)
  .skip))
  (.seq (.reg [⟨some 3, Op.assign (Operand.const (Value.int IntKind.i64 0)), none⟩])
  (.seq (.seq (.reg [⟨some 4, Op.assign (Operand.const (Value.int IntKind.i64 0)), none⟩])
  (.block 0 (.loop L53_b0)))
  (.seq (.reg [⟨some 2, Op.assign (Operand.const (Value.int IntKind.i64 0)), none⟩])
  .ret)))))
theorem low53 : Try.f53.body.bind low = some L53 := by kernel_rfl
theorem call53 {args : List AV} {H : List AO} {R : AV → List AO → Prop} (h : LW Try.prog L53 (endL Try.prog [ResultVar.tmp 2] R) (args ++ List.replicate (35 - args.length) (.v undef)) H) : ACall Try.prog 53 args H R :=
  ACall_of_LW Try.func53 low53 (by decide) rfl rfl h
noncomputable def L54 : LC := (.seq (.reg [⟨some 2, Op.assign (Operand.const (Value.bool false)), none⟩])
  (.seq (.reg [⟨some 3, Op.move (Operand.tmp 0), none⟩,
    ⟨some 4, Op.call { callee := Callee.value (Operand.func 70), args := #[Operand.tmp 3], argTypes := #[5] }, none⟩,
    ⟨some 5, Op.move (Operand.tmp 4), none⟩,
    ⟨some 6, Op.move (Operand.tmp 0), some (5, true)⟩,
    ⟨some 7, Op.binOp BinOp.lss 5 (Operand.tmp 6) (Operand.const (Value.int IntKind.u8 65)) 5, some (5, true)⟩,
    ⟨some 8, Op.move (Operand.tmp 7), some (5, true)⟩,
    ⟨some 9, Op.move (Operand.tmp 0), some (8, false)⟩,
    ⟨some 10, Op.binOp BinOp.gtr 5 (Operand.tmp 9) (Operand.const (Value.int IntKind.u8 90)) 5, some (8, false)⟩,
    ⟨some 11, Op.pick (Operand.tmp 8) (Operand.const (Value.bool true)) (Operand.tmp 10), some (5, true)⟩,
    ⟨some 12, Op.pick (Operand.tmp 5) (Operand.tmp 11) (Operand.const (Value.bool false)), none⟩,
    ⟨some 2, Op.assign (Operand.tmp 12), none⟩])
  .ret))
theorem low54 : Try.f54.body.bind low = some L54 := by kernel_rfl
theorem call54 {args : List AV} {H : List AO} {R : AV → List AO → Prop} (h : LW Try.prog L54 (endL Try.prog [ResultVar.tmp 2] R) (args ++ List.replicate (13 - args.length) (.v undef)) H) : ACall Try.prog 54 args H R :=
  ACall_of_LW Try.func54 low54 (by decide) rfl rfl h
noncomputable def L55 : LC := (.seq (.reg [⟨some 4, Op.assign (Operand.const (Value.bool false)), none⟩,
    ⟨some 5, Op.assign (Operand.const (Value.int IntKind.i64 0)), none⟩])
  (.seq (.seq (.reg [⟨some 7, Op.move (Operand.tmp 1), none⟩,
    ⟨some 8, Op.call { callee := Callee.value (Operand.func 53), args := #[Operand.tmp 7], argTypes := #[9] }, none⟩,
    ⟨some 6, Op.assign (Operand.tmp 8), none⟩])
  (.seq (.reg [⟨some 9, Op.move (Operand.tmp 6), none⟩,
    ⟨some 10, Op.binOp BinOp.neq 32 (Operand.tmp 9) (Operand.const (Value.int IntKind.i64 0)) 32, none⟩])
  (.cond (Operand.tmp 10) (.seq (.reg [⟨some 11, Op.move (Operand.tmp 6), none⟩,
    ⟨some 4, Op.assign (Operand.const (Value.bool false)), none⟩,
    ⟨some 5, Op.assign (Operand.tmp 11), none⟩])
  .ret)
  .skip)))
  (.seq (.reg [⟨some 12, Op.move (Operand.tmp 0), none⟩,
    ⟨some 13, Op.move (Operand.tmp 1), none⟩,
    ⟨some 14, Op.call { callee := Callee.value (Operand.func 71), args := #[Operand.tmp 12, Operand.tmp 13], argTypes := #[9, 9] }, none⟩,
    ⟨some 4, Op.assign (Operand.tmp 14), none⟩,
    ⟨some 5, Op.assign (Operand.const (Value.int IntKind.i64 0)), none⟩])
  .ret)))
theorem low55 : Try.f55.body.bind low = some L55 := by kernel_rfl
theorem call55 {args : List AV} {H : List AO} {R : AV → List AO → Prop} (h : LW Try.prog L55 (endL Try.prog [ResultVar.tmp 4, ResultVar.tmp 5] R) (args ++ List.replicate (15 - args.length) (.v undef)) H) : ACall Try.prog 55 args H R :=
  ACall_of_LW Try.func55 low55 (by decide) rfl rfl h
noncomputable def L56_b0 : LC := (.seq (.seq (.reg [⟨some 6, Op.move (Operand.tmp 4), none⟩,
    ⟨some 7, Op.move (Operand.tmp 0), none⟩,
    ⟨some 8, Op.call { callee := Callee.builtin Builtin.len, args := #[Operand.tmp 7], argTypes := #[24] }, none⟩,
    ⟨some 9, Op.binOp BinOp.lss 3 (Operand.tmp 6) (Operand.tmp 8) 3, none⟩])
  (.cond (Operand.tmp 9) .skip
  (.exit 0)))
  (.seq (.block 1 (.reg [⟨some 12, Op.move (Operand.tmp 3), none⟩,
    ⟨some 13, Op.move (Operand.tmp 0), none⟩,
    ⟨some 14, Op.move (Operand.tmp 4), none⟩,
    ⟨some 15, Op.indexAddr 24 (Operand.tmp 13) (Operand.tmp 14), none⟩,
    ⟨some 16, Op.load 9 (Operand.tmp 15), none⟩,
    ⟨some 17, Op.call { callee := Callee.builtin Builtin.len, args := #[Operand.tmp 16], argTypes := #[9] }, none⟩,
    ⟨some 18, Op.indexAddr 81 (Operand.tmp 12) (Operand.tmp 17), none⟩,
    ⟨some 19, Op.load 3 (Operand.tmp 18), none⟩,
    ⟨some 20, Op.binOp BinOp.add 3 (Operand.tmp 19) (Operand.const (Value.int IntKind.i64 1)) 3, none⟩,
    ⟨some 21, Op.indexAddr 81 (Operand.tmp 12) (Operand.tmp 17), none⟩,
    ⟨none, Op.store 3 (Operand.tmp 21) (Operand.tmp 20), none⟩]))
  (.reg [⟨some 10, Op.move (Operand.tmp 4), none⟩,
    ⟨some 11, Op.binOp BinOp.add 3 (Operand.tmp 10) (Operand.const (Value.int IntKind.i64 1)) 3, none⟩,
    ⟨some 4, Op.assign (Operand.tmp 11), none⟩])))
noncomputable def L56 : LC := (.seq (.reg [⟨some 2, Op.assign (Operand.const (Value.slice none 0 0)), none⟩])
  (.seq (.reg [⟨some 5, Op.makeSlice 81 (Operand.const (Value.int IntKind.i64 50)) (Operand.const (Value.int IntKind.i64 50)), none⟩,
    ⟨some 3, Op.assign (Operand.tmp 5), none⟩])
  (.seq (.seq (.reg [⟨some 4, Op.assign (Operand.const (Value.int IntKind.i64 0)), none⟩])
  (.block 0 (.loop L56_b0)))
  (.seq (.reg [⟨some 22, Op.move (Operand.tmp 3), none⟩,
    ⟨some 2, Op.assign (Operand.tmp 22), none⟩])
  .ret))))
theorem low56 : Try.f56.body.bind low = some L56 := by kernel_rfl
theorem callm56 {k : Nat} {args : List AV} {H : List AO} {R : AV → List AO → Prop} (h : MX Try.prog k L56 (endM Try.prog k [ResultVar.tmp 2] R) (args ++ List.replicate (23 - args.length) (.v undef)) H) : AFn Try.prog 56 k args H R :=
  AFn_of_MW Try.func56 low56 (by decide) rfl rfl (MX_ok h)
theorem callp56 {args : List AV} {r : AV} (h : MX Try.prog 0 L56 (endM Try.prog 0 [ResultVar.tmp 2] (fun v Ho => v = r ∧ Ho = [])) (args ++ List.replicate (23 - args.length) (.v undef)) []) : APure Try.prog 56 args r := APure_of (callm56 h)
noncomputable def d57_13 : Array Oper := drawOps Try.f57 13
def l57_13 : List LOp := [⟨some 68, Op.load 23 (Operand.tmp 6), none⟩,
    ⟨some 69, Op.move (Operand.tmp 1), none⟩,
    ⟨some 70, Op.move (Operand.tmp 2), none⟩,
    ⟨some 71, Op.buildSlice 24 0 #[], none⟩,
    ⟨some 72, Op.move (Operand.tmp 3), none⟩,
    ⟨some 73, Op.call { callee := Callee.builtin Builtin.append, args := #[Operand.tmp 71, Operand.tmp 72], argTypes := #[24, 24] }, none⟩,
    ⟨some 74, Op.move (Operand.tmp 1), none⟩,
    ⟨some 75, Op.move (Operand.tmp 14), none⟩,
    ⟨some 76, Op.indexAddr 24 (Operand.tmp 74) (Operand.tmp 75), none⟩,
    ⟨some 77, Op.load 9 (Operand.tmp 76), none⟩,
    ⟨some 78, Op.buildSlice 24 1 #[(0, Operand.tmp 77)], none⟩,
    ⟨some 79, Op.call { callee := Callee.builtin Builtin.append, args := #[Operand.tmp 73, Operand.tmp 78], argTypes := #[24, 24] }, none⟩,
    ⟨some 80, Op.move (Operand.tmp 4), none⟩,
    ⟨some 81, Op.binOp BinOp.sub 3 (Operand.tmp 80) (Operand.const (Value.int IntKind.i64 1)) 3, none⟩,
    ⟨some 82, Op.move (Operand.tmp 5), none⟩,
    ⟨some 83, Op.call { callee := Callee.value (Operand.func 57), args := #[Operand.tmp 68, Operand.tmp 69, Operand.tmp 70, Operand.tmp 79, Operand.tmp 81, Operand.tmp 82], argTypes := #[23, 24, 81, 24, 3, 31] }, none⟩,
    ⟨some 5, Op.assign (Operand.tmp 83), none⟩]
theorem dl57_13 : lowOps d57_13 d57_13.toList = some l57_13 := by kernel_rfl
theorem dx57_13 : lexOK d57_13.toList = true := by kernel_rfl
def an57_13 : List (List Nat) := [[], [], [], [], [], [3, 4], [], [], [6, 7], [6, 7, 8], [6, 7, 8, 9], [3, 4, 5, 6, 7, 8, 9, 10], [], [12], [], [0, 1, 2, 3, 4, 5, 6, 7, 8, 9, 10, 11, 12, 13, 14], [0, 1, 2, 3, 4, 5, 6, 7, 8, 9, 10, 11, 12, 13, 14, 15]]
theorem ax57_13 : ancOK d57_13.toList an57_13 = true := by kernel_rfl
noncomputable def L57_b0 : LC := (.seq (.seq (.reg [⟨some 57, Op.move (Operand.tmp 14), none⟩,
    ⟨some 58, Op.move (Operand.tmp 1), none⟩,
    ⟨some 59, Op.call { callee := Callee.builtin Builtin.len, args := #[Operand.tmp 58], argTypes := #[24] }, none⟩,
    ⟨some 60, Op.binOp BinOp.lss 3 (Operand.tmp 57) (Operand.tmp 59) 3, none⟩,
    ⟨some 61, Op.move (Operand.tmp 60), none⟩,
    ⟨some 62, Op.move (Operand.tmp 5), some (61, true)⟩,
    ⟨some 63, Op.call { callee := Callee.builtin Builtin.len, args := #[Operand.tmp 62], argTypes := #[31] }, some (61, true)⟩,
    ⟨some 64, Op.binOp BinOp.leq 3 (Operand.tmp 63) (Operand.const (Value.int IntKind.i64 2000)) 3, some (61, true)⟩,
    ⟨some 65, Op.pick (Operand.tmp 61) (Operand.tmp 64) (Operand.const (Value.bool false)), none⟩])
  (.cond (Operand.tmp 65) .skip
  (.exit 0)))
  (.seq (.block 1 (.draw 13 d57_13))
  (.reg [⟨some 66, Op.move (Operand.tmp 14), none⟩,
    ⟨some 67, Op.binOp BinOp.add 3 (Operand.tmp 66) (Operand.const (Value.int IntKind.i64 1)) 3, none⟩,
    ⟨some 14, Op.assign (Operand.tmp 67), none⟩])))
noncomputable def L57 : LC := (.seq (.reg [⟨some 6, Op.box 23 (Operand.tmp 0), none⟩,
    ⟨some 12, Op.assign (Operand.const (Value.slice none 0 0)), none⟩])
  (.seq (.reg [⟨some 15, Op.move (Operand.tmp 3), none⟩,
    ⟨some 16, Op.call { callee := Callee.value (Operand.func 39), args := #[Operand.tmp 15, Operand.const (Value.string { data := #[32] })], argTypes := #[24, 9] }, none⟩,
    ⟨some 17, Op.call { callee := Callee.builtin Builtin.len, args := #[Operand.tmp 16], argTypes := #[9] }, none⟩,
    ⟨some 13, Op.assign (Operand.tmp 17), none⟩])
  (.seq (.seq (.reg [⟨some 18, Op.move (Operand.tmp 4), none⟩,
    ⟨some 19, Op.binOp BinOp.eql 3 (Operand.tmp 18) (Operand.const (Value.int IntKind.i64 0)) 3, none⟩])
  (.cond (Operand.tmp 19) (.seq (.seq (.reg [⟨some 20, Op.load 23 (Operand.tmp 6), none⟩,
    ⟨some 21, Op.move (Operand.tmp 3), none⟩,
    ⟨some 22, Op.call { callee := Callee.value (Operand.func 37), args := #[Operand.tmp 20, Operand.tmp 21], argTypes := #[23, 24] }, none⟩])
  (.cond (Operand.tmp 22) (.reg [⟨some 23, Op.move (Operand.tmp 5), none⟩,
    ⟨some 24, Op.buildSlice 24 0 #[], none⟩,
    ⟨some 25, Op.move (Operand.tmp 3), none⟩,
    ⟨some 26, Op.call { callee := Callee.builtin Builtin.append, args := #[Operand.tmp 24, Operand.tmp 25], argTypes := #[24, 24] }, none⟩,
    ⟨some 27, Op.buildSlice 31 1 #[(0, Operand.tmp 26)], none⟩,
    ⟨some 28, Op.call { callee := Callee.builtin Builtin.append, args := #[Operand.tmp 23, Operand.tmp 27], argTypes := #[31, 31] }, none⟩,
    ⟨some 5, Op.assign (Operand.tmp 28), none⟩])
  .skip))
  (.seq (.reg [⟨some 29, Op.move (Operand.tmp 5), none⟩,
    ⟨some 12, Op.assign (Operand.tmp 29), none⟩])
  .ret))
  .skip))
  (.seq (.seq (.reg [⟨some 30, Op.move (Operand.tmp 3), none⟩,
    ⟨some 31, Op.call { callee := Callee.builtin Builtin.len, args := #[Operand.tmp 30], argTypes := #[24] }, none⟩,
    ⟨some 32, Op.binOp BinOp.gtr 3 (Operand.tmp 31) (Operand.const (Value.int IntKind.i64 0)) 3, none⟩])
  (.cond (Operand.tmp 32) (.reg [⟨some 33, Op.move (Operand.tmp 13), none⟩,
    ⟨some 34, Op.binOp BinOp.add 3 (Operand.tmp 33) (Operand.const (Value.int IntKind.i64 1)) 3, none⟩,
    ⟨some 13, Op.assign (Operand.tmp 34), none⟩])
  .skip))
  (.seq (.seq (.reg [⟨some 35, Op.move (Operand.tmp 4), none⟩,
    ⟨some 36, Op.binOp BinOp.eql 3 (Operand.tmp 35) (Operand.const (Value.int IntKind.i64 1)) 3, none⟩,
    ⟨some 37, Op.move (Operand.tmp 36), none⟩,
    ⟨some 38, Op.move (Operand.tmp 2), some (37, true)⟩,
    ⟨some 39, Op.fieldAddr 23 (Operand.tmp 6) 2, some (37, true)⟩,
    ⟨some 40, Op.load 3 (Operand.tmp 39), some (37, true)⟩,
    ⟨some 41, Op.move (Operand.tmp 13), some (37, true)⟩,
    ⟨some 42, Op.binOp BinOp.sub 3 (Operand.tmp 40) (Operand.tmp 41) 3, some (37, true)⟩,
    ⟨some 43, Op.fieldAddr 23 (Operand.tmp 6) 3, some (37, true)⟩,
    ⟨some 44, Op.load 3 (Operand.tmp 43), some (37, true)⟩,
    ⟨some 45, Op.move (Operand.tmp 13), some (37, true)⟩,
    ⟨some 46, Op.binOp BinOp.sub 3 (Operand.tmp 44) (Operand.tmp 45) 3, some (37, true)⟩,
    ⟨some 47, Op.call { callee := Callee.value (Operand.func 72), args := #[Operand.tmp 38, Operand.tmp 42, Operand.tmp 46], argTypes := #[81, 3, 3] }, some (37, true)⟩,
    ⟨some 48, Op.binOp BinOp.eql 3 (Operand.tmp 47) (Operand.const (Value.int IntKind.i64 0)) 3, some (37, true)⟩,
    ⟨some 49, Op.pick (Operand.tmp 37) (Operand.tmp 48) (Operand.const (Value.bool false)), none⟩,
    ⟨some 50, Op.move (Operand.tmp 49), none⟩,
    ⟨some 51, Op.move (Operand.tmp 13), some (50, false)⟩,
    ⟨some 52, Op.fieldAddr 23 (Operand.tmp 6) 3, some (50, false)⟩,
    ⟨some 53, Op.load 3 (Operand.tmp 52), some (50, false)⟩,
    ⟨some 54, Op.binOp BinOp.gtr 3 (Operand.tmp 51) (Operand.tmp 53) 3, some (50, false)⟩,
    ⟨some 55, Op.pick (Operand.tmp 50) (Operand.const (Value.bool true)) (Operand.tmp 54), none⟩])
  (.cond (Operand.tmp 55) (.seq (.reg [⟨some 56, Op.move (Operand.tmp 5), none⟩,
    ⟨some 12, Op.assign (Operand.tmp 56), none⟩])
  .ret)
  .skip))
  (.seq (.seq (.reg [⟨some 14, Op.assign (Operand.const (Value.int IntKind.i64 0)), none⟩])
  (.block 0 (.loop L57_b0)))
  (.seq (.reg [⟨some 84, Op.move (Operand.tmp 5), none⟩,
    ⟨some 12, Op.assign (Operand.tmp 84), none⟩])
  .ret)))))))
theorem low57 : Try.f57.body.bind low = some L57 := by kernel_rfl
theorem callm57 {k : Nat} {args : List AV} {H : List AO} {R : AV → List AO → Prop} (h : MX Try.prog k L57 (endM Try.prog k [ResultVar.tmp 12] R) (args ++ List.replicate (85 - args.length) (.v undef)) H) : AFn Try.prog 57 k args H R :=
  AFn_of_MW Try.func57 low57 (by decide) rfl rfl (MX_ok h)
theorem calln57 {k : Nat} {args : List AV} {H : List AO} {R : AV → List AO → Prop} (h : NX Try.prog k L57 (endM Try.prog k [ResultVar.tmp 12] R) (args ++ List.replicate (85 - args.length) (.v undef)) H) : AFn Try.prog 57 k args H R :=
  AFn_of_MW Try.func57 low57 (by decide) rfl rfl (NX_go h)
noncomputable def L58 : LC := (.seq (.reg [⟨some 4, Op.assign (Operand.const (Value.int IntKind.i64 0)), none⟩])
  (.seq (.reg [⟨some 5, Op.move (Operand.tmp 0), none⟩,
    ⟨some 6, Op.move (Operand.tmp 1), none⟩,
    ⟨some 7, Op.call { callee := Callee.value (Operand.func 73), args := #[Operand.tmp 5, Operand.tmp 6], argTypes := #[9, 5] }, none⟩,
    ⟨some 4, Op.assign (Operand.tmp 7), none⟩])
  .ret))
theorem low58 : Try.f58.body.bind low = some L58 := by kernel_rfl
theorem call58 {args : List AV} {H : List AO} {R : AV → List AO → Prop} (h : LW Try.prog L58 (endL Try.prog [ResultVar.tmp 4] R) (args ++ List.replicate (8 - args.length) (.v undef)) H) : ACall Try.prog 58 args H R :=
  ACall_of_LW Try.func58 low58 (by decide) rfl rfl h
noncomputable def L62 : LC := (.seq (.reg [⟨some 4, Op.assign (Operand.const (Value.string { data := #[] })), none⟩,
    ⟨some 5, Op.assign (Operand.const (Value.string { data := #[] })), none⟩,
    ⟨some 6, Op.assign (Operand.const (Value.bool false)), none⟩])
  (.seq (.reg [⟨some 7, Op.move (Operand.tmp 0), none⟩,
    ⟨some 8, Op.move (Operand.tmp 1), none⟩,
    ⟨some 9, Op.call { callee := Callee.value (Operand.func 75), args := #[Operand.tmp 7, Operand.tmp 8], argTypes := #[9, 9] }, none⟩,
    ⟨some 10, Op.extract (Operand.tmp 9) 0, none⟩,
    ⟨some 11, Op.extract (Operand.tmp 9) 1, none⟩,
    ⟨some 12, Op.extract (Operand.tmp 9) 2, none⟩,
    ⟨some 4, Op.assign (Operand.tmp 10), none⟩,
    ⟨some 5, Op.assign (Operand.tmp 11), none⟩,
    ⟨some 6, Op.assign (Operand.tmp 12), none⟩])
  .ret))
theorem low62 : Try.f62.body.bind low = some L62 := by kernel_rfl
theorem call62 {args : List AV} {H : List AO} {R : AV → List AO → Prop} (h : LW Try.prog L62 (endL Try.prog [ResultVar.tmp 4, ResultVar.tmp 5, ResultVar.tmp 6] R) (args ++ List.replicate (13 - args.length) (.v undef)) H) : ACall Try.prog 62 args H R :=
  ACall_of_LW Try.func62 low62 (by decide) rfl rfl h
noncomputable def L63_b0 : LC := (.seq (.reg [⟨some 35, Op.binOp BinOp.lss 3 (Operand.tmp 34) (Operand.tmp 33) 3, none⟩])
  (.seq (.cond (Operand.tmp 35) .skip
  (.exit 0))
  (.seq (.block 1 (.seq (.reg [⟨some 36, Op.indexAddr 71 (Operand.tmp 32) (Operand.tmp 34), none⟩,
    ⟨some 37, Op.load 5 (Operand.tmp 36), none⟩,
    ⟨some 6, Op.assign (Operand.tmp 37), none⟩])
  (.reg [⟨some 38, Op.move (Operand.tmp 4), none⟩,
    ⟨some 39, Op.binOp BinOp.mul 3 (Operand.const (Value.int IntKind.i64 10)) (Operand.tmp 38) 3, none⟩,
    ⟨some 40, Op.move (Operand.tmp 6), none⟩,
    ⟨some 41, Op.binOp BinOp.sub 5 (Operand.tmp 40) (Operand.const (Value.int IntKind.u8 48)) 5, none⟩,
    ⟨some 42, Op.convert 5 3 (Operand.tmp 41), none⟩,
    ⟨some 43, Op.binOp BinOp.add 3 (Operand.tmp 39) (Operand.tmp 42) 3, none⟩,
    ⟨some 4, Op.assign (Operand.tmp 43), none⟩])))
  (.reg [⟨some 44, Op.binOp BinOp.add 3 (Operand.tmp 34) (Operand.const (Value.int IntKind.i64 1)) 3, none⟩,
    ⟨some 34, Op.move (Operand.tmp 44), none⟩]))))
noncomputable def L63 : LC := (.seq (.reg [⟨some 2, Op.assign (Operand.const (Value.int IntKind.i64 0)), none⟩,
    ⟨some 3, Op.assign (Operand.const (Value.bool false)), none⟩])
  (.seq (.seq (.reg [⟨some 7, Op.move (Operand.tmp 0), none⟩,
    ⟨some 8, Op.binOp BinOp.eql 9 (Operand.tmp 7) (Operand.const (Value.string { data := #[] })) 9, none⟩,
    ⟨some 9, Op.move (Operand.tmp 8), none⟩,
    ⟨some 10, Op.move (Operand.tmp 0), some (9, false)⟩,
    ⟨some 11, Op.call { callee := Callee.builtin Builtin.len, args := #[Operand.tmp 10], argTypes := #[9] }, some (9, false)⟩,
    ⟨some 12, Op.binOp BinOp.gtr 3 (Operand.tmp 11) (Operand.const (Value.int IntKind.i64 6)) 3, some (9, false)⟩,
    ⟨some 13, Op.pick (Operand.tmp 9) (Operand.const (Value.bool true)) (Operand.tmp 12), none⟩,
    ⟨some 14, Op.move (Operand.tmp 13), none⟩,
    ⟨some 15, Op.move (Operand.tmp 0), some (14, false)⟩,
    ⟨some 16, Op.call { callee := Callee.value (Operand.func 76), args := #[Operand.tmp 15], argTypes := #[9] }, some (14, false)⟩,
    ⟨some 17, Op.move (Operand.tmp 0), some (14, false)⟩,
    ⟨some 18, Op.call { callee := Callee.builtin Builtin.len, args := #[Operand.tmp 17], argTypes := #[9] }, some (14, false)⟩,
    ⟨some 19, Op.binOp BinOp.neq 3 (Operand.tmp 16) (Operand.tmp 18) 3, some (14, false)⟩,
    ⟨some 20, Op.pick (Operand.tmp 14) (Operand.const (Value.bool true)) (Operand.tmp 19), none⟩,
    ⟨some 21, Op.move (Operand.tmp 20), none⟩,
    ⟨some 22, Op.move (Operand.tmp 0), some (21, false)⟩,
    ⟨some 23, Op.call { callee := Callee.builtin Builtin.len, args := #[Operand.tmp 22], argTypes := #[9] }, some (21, false)⟩,
    ⟨some 24, Op.binOp BinOp.gtr 3 (Operand.tmp 23) (Operand.const (Value.int IntKind.i64 1)) 3, some (21, false)⟩,
    ⟨some 25, Op.move (Operand.tmp 24), some (21, false)⟩,
    ⟨some 26, Op.move (Operand.tmp 0), some (25, true)⟩,
    ⟨some 27, Op.index 9 (Operand.tmp 26) (Operand.const (Value.int IntKind.i64 0)), some (25, true)⟩,
    ⟨some 28, Op.binOp BinOp.eql 5 (Operand.tmp 27) (Operand.const (Value.int IntKind.u8 48)) 5, some (25, true)⟩,
    ⟨some 29, Op.pick (Operand.tmp 25) (Operand.tmp 28) (Operand.const (Value.bool false)), some (21, false)⟩,
    ⟨some 30, Op.pick (Operand.tmp 21) (Operand.const (Value.bool true)) (Operand.tmp 29), none⟩])
  (.cond (Operand.tmp 30) (.seq (.reg [⟨some 2, Op.assign (Operand.const (Value.int IntKind.i64 0)), none⟩,
    ⟨some 3, Op.assign (Operand.const (Value.bool false)), none⟩])
  .ret)
  .skip))
  (.seq (.reg [⟨some 4, Op.assign (Operand.const (Value.int IntKind.i64 0)), none⟩])
  (.seq (.seq (.reg [⟨some 31, Op.move (Operand.tmp 0), none⟩,
    ⟨some 32, Op.convert 9 71 (Operand.tmp 31), none⟩,
    ⟨some 33, Op.call { callee := Callee.builtin Builtin.len, args := #[Operand.tmp 32], argTypes := #[71] }, none⟩,
    ⟨some 34, Op.move (Operand.const (Value.int IntKind.i64 0)), none⟩])
  (.block 0 (.loop L63_b0)))
  (.seq (.reg [⟨some 45, Op.move (Operand.tmp 4), none⟩,
    ⟨some 2, Op.assign (Operand.tmp 45), none⟩,
    ⟨some 3, Op.assign (Operand.const (Value.bool true)), none⟩])
  .ret)))))
theorem low63 : Try.f63.body.bind low = some L63 := by kernel_rfl
theorem callm63 {k : Nat} {args : List AV} {H : List AO} {R : AV → List AO → Prop} (h : MX Try.prog k L63 (endM Try.prog k [ResultVar.tmp 2, ResultVar.tmp 3] R) (args ++ List.replicate (46 - args.length) (.v undef)) H) : AFn Try.prog 63 k args H R :=
  AFn_of_MW Try.func63 low63 (by decide) rfl rfl (MX_ok h)
theorem callp63 {args : List AV} {r : AV} (h : MX Try.prog 0 L63 (endM Try.prog 0 [ResultVar.tmp 2, ResultVar.tmp 3] (fun v Ho => v = r ∧ Ho = [])) (args ++ List.replicate (46 - args.length) (.v undef)) []) : APure Try.prog 63 args r := APure_of (callm63 h)
noncomputable def L64 : LC := (.seq (.reg [⟨some 2, Op.assign (Operand.const (Value.int IntKind.i64 0)), none⟩])
  (.seq (.block 0 (.seq (.reg [⟨some 4, Op.move (Operand.tmp 0), none⟩,
    ⟨some 5, Op.call { callee := Callee.builtin Builtin.len, args := #[Operand.tmp 4], argTypes := #[9] }, none⟩,
    ⟨some 6, Op.binOp BinOp.gtr 3 (Operand.tmp 5) (Operand.const (Value.int IntKind.i64 40)) 3, none⟩,
    ⟨some 3, Op.assign (Operand.tmp 6), none⟩])
  (.cond (Operand.tmp 3) (.seq (.reg [⟨some 2, Op.assign (Operand.const (Value.int IntKind.i64 3)), none⟩])
  .ret)
  (.seq (.seq (.reg [⟨some 8, Op.move (Operand.tmp 0), none⟩,
    ⟨some 9, Op.call { callee := Callee.value (Operand.func 45), args := #[Operand.tmp 8, Operand.const (Value.string { data := #[42] })], argTypes := #[9, 9] }, none⟩,
    ⟨some 10, Op.binOp BinOp.gtr 3 (Operand.tmp 9) (Operand.const (Value.int IntKind.i64 1)) 3, none⟩,
    ⟨some 7, Op.assign (Operand.tmp 10), none⟩])
  (.cond (Operand.tmp 7) .skip
  (.reg [⟨some 11, Op.move (Operand.tmp 0), none⟩,
    ⟨some 12, Op.convert 9 71 (Operand.tmp 11), none⟩,
    ⟨some 13, Op.call { callee := Callee.value (Operand.func 77), args := #[Operand.tmp 12, Operand.func 78], argTypes := #[71, 80] }, none⟩,
    ⟨some 7, Op.assign (Operand.tmp 13), none⟩])))
  (.cond (Operand.tmp 7) (.seq (.reg [⟨some 2, Op.assign (Operand.const (Value.int IntKind.i64 2)), none⟩])
  .ret)
  .skip)))))
  (.seq (.reg [⟨some 2, Op.assign (Operand.const (Value.int IntKind.i64 0)), none⟩])
  .ret)))
theorem low64 : Try.f64.body.bind low = some L64 := by kernel_rfl
theorem call64 {args : List AV} {H : List AO} {R : AV → List AO → Prop} (h : LW Try.prog L64 (endL Try.prog [ResultVar.tmp 2] R) (args ++ List.replicate (14 - args.length) (.v undef)) H) : ACall Try.prog 64 args H R :=
  ACall_of_LW Try.func64 low64 (by decide) rfl rfl h
noncomputable def L65 : LC := (.seq (.reg [⟨some 4, Op.assign (Operand.const (Value.bool false)), none⟩])
  (.seq (.reg [⟨some 12, Op.move (Operand.tmp 1), none⟩,
    ⟨some 13, Op.call { callee := Callee.value (Operand.func 62), args := #[Operand.tmp 12, Operand.const (Value.string { data := #[42] })], argTypes := #[9, 9] }, none⟩,
    ⟨some 11, Op.move (Operand.tmp 13), none⟩,
    ⟨some 14, Op.extract (Operand.tmp 11) 0, none⟩,
    ⟨some 15, Op.extract (Operand.tmp 11) 1, none⟩,
    ⟨some 16, Op.extract (Operand.tmp 11) 2, none⟩,
    ⟨some 5, Op.assign (Operand.tmp 14), none⟩,
    ⟨some 6, Op.assign (Operand.tmp 15), none⟩,
    ⟨some 7, Op.assign (Operand.tmp 16), none⟩])
  (.seq (.seq (.reg [⟨some 17, Op.move (Operand.tmp 7), none⟩,
    ⟨some 18, Op.unOp UnOp.not 4 (Operand.tmp 17), none⟩])
  (.cond (Operand.tmp 18) (.seq (.reg [⟨some 19, Op.move (Operand.tmp 0), none⟩,
    ⟨some 20, Op.move (Operand.tmp 1), none⟩,
    ⟨some 21, Op.call { callee := Callee.value (Operand.func 80), args := #[Operand.tmp 19, Operand.tmp 20], argTypes := #[9, 9] }, none⟩,
    ⟨some 4, Op.assign (Operand.tmp 21), none⟩])
  .ret)
  .skip))
  (.seq (.reg [⟨some 22, Op.move (Operand.tmp 5), none⟩,
    ⟨some 23, Op.call { callee := Callee.builtin Builtin.len, args := #[Operand.tmp 22], argTypes := #[9] }, none⟩,
    ⟨some 24, Op.move (Operand.tmp 0), none⟩,
    ⟨some 25, Op.call { callee := Callee.builtin Builtin.len, args := #[Operand.tmp 24], argTypes := #[9] }, none⟩,
    ⟨some 26, Op.move (Operand.tmp 6), none⟩,
    ⟨some 27, Op.call { callee := Callee.builtin Builtin.len, args := #[Operand.tmp 26], argTypes := #[9] }, none⟩,
    ⟨some 28, Op.binOp BinOp.sub 3 (Operand.tmp 25) (Operand.tmp 27) 3, none⟩,
    ⟨some 8, Op.assign (Operand.tmp 23), none⟩,
    ⟨some 9, Op.assign (Operand.tmp 28), none⟩])
  (.seq (.seq (.reg [⟨some 29, Op.move (Operand.tmp 9), none⟩,
    ⟨some 30, Op.move (Operand.tmp 8), none⟩,
    ⟨some 31, Op.binOp BinOp.lss 3 (Operand.tmp 29) (Operand.tmp 30) 3, none⟩])
  (.cond (Operand.tmp 31) (.seq (.reg [⟨some 4, Op.assign (Operand.const (Value.bool false)), none⟩])
  .ret)
  .skip))
  (.seq (.reg [⟨some 32, Op.move (Operand.tmp 0), none⟩,
    ⟨some 33, Op.move (Operand.tmp 8), none⟩,
    ⟨some 34, Op.move (Operand.tmp 9), none⟩,
    ⟨some 35, Op.slice 9 (Operand.tmp 32) (some (Operand.tmp 33)) (some (Operand.tmp 34)) none, none⟩,
    ⟨some 36, Op.convert 9 71 (Operand.tmp 35), none⟩,
    ⟨some 10, Op.assign (Operand.tmp 36), none⟩])
  (.seq (.reg [⟨some 37, Op.move (Operand.tmp 0), none⟩,
    ⟨some 38, Op.move (Operand.tmp 8), none⟩,
    ⟨some 39, Op.slice 9 (Operand.tmp 37) none (some (Operand.tmp 38)) none, none⟩,
    ⟨some 40, Op.move (Operand.tmp 5), none⟩,
    ⟨some 41, Op.call { callee := Callee.value (Operand.func 80), args := #[Operand.tmp 39, Operand.tmp 40], argTypes := #[9, 9] }, none⟩,
    ⟨some 42, Op.move (Operand.tmp 41), none⟩,
    ⟨some 43, Op.move (Operand.tmp 0), some (42, true)⟩,
    ⟨some 44, Op.move (Operand.tmp 9), some (42, true)⟩,
    ⟨some 45, Op.slice 9 (Operand.tmp 43) (some (Operand.tmp 44)) none none, some (42, true)⟩,
    ⟨some 46, Op.move (Operand.tmp 6), some (42, true)⟩,
    ⟨some 47, Op.call { callee := Callee.value (Operand.func 80), args := #[Operand.tmp 45, Operand.tmp 46], argTypes := #[9, 9] }, some (42, true)⟩,
    ⟨some 48, Op.pick (Operand.tmp 42) (Operand.tmp 47) (Operand.const (Value.bool false)), none⟩,
    ⟨some 49, Op.move (Operand.tmp 48), none⟩,
    ⟨some 50, Op.move (Operand.tmp 10), some (49, true)⟩,
    ⟨some 51, Op.call { callee := Callee.value (Operand.func 77), args := #[Operand.tmp 50, Operand.func 81], argTypes := #[71, 80] }, some (49, true)⟩,
    ⟨some 52, Op.unOp UnOp.not 4 (Operand.tmp 51), some (49, true)⟩,
    ⟨some 53, Op.pick (Operand.tmp 49) (Operand.tmp 52) (Operand.const (Value.bool false)), none⟩,
    ⟨some 4, Op.assign (Operand.tmp 53), none⟩])
  .ret)))))))
theorem low65 : Try.f65.body.bind low = some L65 := by kernel_rfl
theorem call65 {args : List AV} {H : List AO} {R : AV → List AO → Prop} (h : LW Try.prog L65 (endL Try.prog [ResultVar.tmp 4] R) (args ++ List.replicate (54 - args.length) (.v undef)) H) : ACall Try.prog 65 args H R :=
  ACall_of_LW Try.func65 low65 (by decide) rfl rfl h
noncomputable def L66 : LC := (.seq (.reg [⟨some 2, Op.assign (Operand.const (Value.int IntKind.i64 0)), none⟩])
  (.seq (.block 0 (.seq (.reg [⟨some 4, Op.move (Operand.tmp 0), none⟩,
    ⟨some 5, Op.binOp BinOp.eql 9 (Operand.tmp 4) (Operand.const (Value.string { data := #[] })) 9, none⟩,
    ⟨some 3, Op.assign (Operand.tmp 5), none⟩])
  (.cond (Operand.tmp 3) (.seq (.reg [⟨some 2, Op.assign (Operand.const (Value.int IntKind.i64 7)), none⟩])
  .ret)
  (.seq (.reg [⟨some 7, Op.move (Operand.tmp 0), none⟩,
    ⟨some 8, Op.call { callee := Callee.builtin Builtin.len, args := #[Operand.tmp 7], argTypes := #[9] }, none⟩,
    ⟨some 9, Op.binOp BinOp.gtr 3 (Operand.tmp 8) (Operand.const (Value.int IntKind.i64 16)) 3, none⟩,
    ⟨some 6, Op.assign (Operand.tmp 9), none⟩])
  (.cond (Operand.tmp 6) (.seq (.reg [⟨some 2, Op.assign (Operand.const (Value.int IntKind.i64 3)), none⟩])
  .ret)
  (.seq (.reg [⟨some 11, Op.move (Operand.tmp 0), none⟩,
    ⟨some 12, Op.convert 9 71 (Operand.tmp 11), none⟩,
    ⟨some 13, Op.call { callee := Callee.value (Operand.func 77), args := #[Operand.tmp 12, Operand.func 83], argTypes := #[71, 80] }, none⟩,
    ⟨some 10, Op.assign (Operand.tmp 13), none⟩])
  (.cond (Operand.tmp 10) (.seq (.reg [⟨some 2, Op.assign (Operand.const (Value.int IntKind.i64 2)), none⟩])
  .ret)
  .skip)))))))
  (.seq (.reg [⟨some 2, Op.assign (Operand.const (Value.int IntKind.i64 0)), none⟩])
  .ret)))
theorem low66 : Try.f66.body.bind low = some L66 := by kernel_rfl
theorem call66 {args : List AV} {H : List AO} {R : AV → List AO → Prop} (h : LW Try.prog L66 (endL Try.prog [ResultVar.tmp 2] R) (args ++ List.replicate (14 - args.length) (.v undef)) H) : ACall Try.prog 66 args H R :=
  ACall_of_LW Try.func66 low66 (by decide) rfl rfl h
noncomputable def d67_1 : Array Oper := drawOps Try.f67 1
def l67_1 : List LOp := [⟨some 5, Op.load 52 (Operand.tmp 1), none⟩,
    ⟨some 6, Op.nilCheck (Operand.tmp 5), none⟩,
    ⟨some 7, Op.fieldAddr 54 (Operand.tmp 6) 0, none⟩,
    ⟨some 8, Op.load 23 (Operand.tmp 7), none⟩,
    ⟨some 9, Op.load 24 (Operand.tmp 2), none⟩,
    ⟨some 10, Op.call { callee := Callee.value (Operand.func 17), args := #[Operand.tmp 9], argTypes := #[24] }, none⟩,
    ⟨some 11, Op.move (Operand.tmp 0), none⟩,
    ⟨some 12, Op.buildSlice 24 1 #[(0, Operand.tmp 11)], none⟩,
    ⟨some 13, Op.call { callee := Callee.builtin Builtin.append, args := #[Operand.tmp 10, Operand.tmp 12], argTypes := #[24, 24] }, none⟩,
    ⟨some 14, Op.call { callee := Callee.value (Operand.func 32), args := #[Operand.tmp 8, Operand.tmp 13], argTypes := #[23, 24] }, none⟩,
    ⟨some 4, Op.assign (Operand.tmp 14), none⟩]
theorem dl67_1 : lowOps d67_1 d67_1.toList = some l67_1 := by kernel_rfl
theorem dx67_1 : lexOK d67_1.toList = true := by kernel_rfl
def an67_1 : List (List Nat) := [[], [0], [0, 1], [0, 1, 2], [], [4], [], [6], [4, 5, 6, 7], [0, 1, 2, 3, 4, 5, 6, 7, 8], [0, 1, 2, 3, 4, 5, 6, 7, 8, 9]]
theorem ax67_1 : ancOK d67_1.toList an67_1 = true := by kernel_rfl
noncomputable def L67 : LC := (.seq (.reg [⟨some 4, Op.assign (Operand.const (Value.bool false)), none⟩])
  (.seq (.draw 1 d67_1)
  .ret))
theorem low67 : Try.f67.body.bind low = some L67 := by kernel_rfl
theorem callm67 {k : Nat} {args : List AV} {H : List AO} {R : AV → List AO → Prop} (h : MX Try.prog k L67 (endM Try.prog k [ResultVar.tmp 4] R) (args ++ List.replicate (15 - args.length) (.v undef)) H) : AFn Try.prog 67 k args H R :=
  AFn_of_MW Try.func67 low67 (by decide) rfl rfl (MX_ok h)
theorem callp67 {args : List AV} {r : AV} (h : MX Try.prog 0 L67 (endM Try.prog 0 [ResultVar.tmp 4] (fun v Ho => v = r ∧ Ho = [])) (args ++ List.replicate (15 - args.length) (.v undef)) []) : APure Try.prog 67 args r := APure_of (callm67 h)
noncomputable def L70_b0 : LC := (.seq (.seq (.reg [⟨some 10, Op.move (Operand.tmp 3), none⟩,
    ⟨some 11, Op.binOp BinOp.lss 3 (Operand.tmp 10) (Operand.const (Value.int IntKind.i64 15)) 3, none⟩])
  (.cond (Operand.tmp 11) .skip
  (.exit 0)))
  (.seq (.block 1 (.seq (.reg [⟨some 14, Op.move (Operand.tmp 3), none⟩,
    ⟨some 15, Op.index 9 (Operand.const (Value.string { data := #[32, 46, 44, 59, 58, 33, 63, 34, 45, 91, 93, 60, 62, 123, 125] })) (Operand.tmp 14), none⟩,
    ⟨some 16, Op.move (Operand.tmp 0), none⟩,
    ⟨some 17, Op.binOp BinOp.eql 5 (Operand.tmp 15) (Operand.tmp 16) 5, none⟩])
  (.cond (Operand.tmp 17) (.seq (.reg [⟨some 2, Op.assign (Operand.const (Value.bool false)), none⟩])
  .ret)
  .skip)))
  (.reg [⟨some 12, Op.move (Operand.tmp 3), none⟩,
    ⟨some 13, Op.binOp BinOp.add 3 (Operand.tmp 12) (Operand.const (Value.int IntKind.i64 1)) 3, none⟩,
    ⟨some 3, Op.assign (Operand.tmp 13), none⟩])))
noncomputable def L70 : LC := (.seq (.reg [⟨some 2, Op.assign (Operand.const (Value.bool false)), none⟩])
  (.seq (.seq (.reg [⟨some 4, Op.move (Operand.tmp 0), none⟩,
    ⟨some 5, Op.binOp BinOp.lss 5 (Operand.tmp 4) (Operand.const (Value.int IntKind.u8 32)) 5, none⟩,
    ⟨some 6, Op.move (Operand.tmp 5), none⟩,
    ⟨some 7, Op.move (Operand.tmp 0), some (6, false)⟩,
    ⟨some 8, Op.binOp BinOp.gtr 5 (Operand.tmp 7) (Operand.const (Value.int IntKind.u8 126)) 5, some (6, false)⟩,
    ⟨some 9, Op.pick (Operand.tmp 6) (Operand.const (Value.bool true)) (Operand.tmp 8), none⟩])
  (.cond (Operand.tmp 9) (.seq (.reg [⟨some 2, Op.assign (Operand.const (Value.bool false)), none⟩])
  .ret)
  .skip))
  (.seq (.seq (.reg [⟨some 3, Op.assign (Operand.const (Value.int IntKind.i64 0)), none⟩])
  (.block 0 (.loop L70_b0)))
  (.seq (.reg [⟨some 2, Op.assign (Operand.const (Value.bool true)), none⟩])
  .ret))))
theorem low70 : Try.f70.body.bind low = some L70 := by kernel_rfl
theorem call70 {args : List AV} {H : List AO} {R : AV → List AO → Prop} (h : LW Try.prog L70 (endL Try.prog [ResultVar.tmp 2] R) (args ++ List.replicate (18 - args.length) (.v undef)) H) : ACall Try.prog 70 args H R :=
  ACall_of_LW Try.func70 low70 (by decide) rfl rfl h
noncomputable def d71_8 : Array Oper := drawOps Try.f71 8
def l71_8 : List LOp := [⟨some 36, Op.move (Operand.tmp 0), none⟩,
    ⟨some 37, Op.index 9 (Operand.tmp 36) (Operand.const (Value.int IntKind.i64 0)), none⟩,
    ⟨some 38, Op.call { callee := Callee.value (Operand.func 70), args := #[Operand.tmp 37], argTypes := #[5] }, none⟩,
    ⟨some 39, Op.move (Operand.tmp 38), none⟩,
    ⟨some 40, Op.move (Operand.tmp 0), some (39, true)⟩,
    ⟨some 41, Op.slice 9 (Operand.tmp 40) (some (Operand.const (Value.int IntKind.i64 1))) none none, some (39, true)⟩,
    ⟨some 42, Op.move (Operand.tmp 1), some (39, true)⟩,
    ⟨some 43, Op.slice 9 (Operand.tmp 42) (some (Operand.const (Value.int IntKind.i64 1))) none none, some (39, true)⟩,
    ⟨some 44, Op.call { callee := Callee.value (Operand.func 71), args := #[Operand.tmp 41, Operand.tmp 43], argTypes := #[9, 9] }, some (39, true)⟩,
    ⟨some 45, Op.pick (Operand.tmp 39) (Operand.tmp 44) (Operand.const (Value.bool false)), none⟩,
    ⟨some 4, Op.assign (Operand.tmp 45), none⟩]
theorem dl71_8 : lowOps d71_8 d71_8.toList = some l71_8 := by kernel_rfl
theorem dx71_8 : lexOK d71_8.toList = true := by kernel_rfl
noncomputable def d71_9 : Array Oper := drawOps Try.f71 9
def l71_9 : List LOp := [⟨some 46, Op.move (Operand.tmp 0), none⟩,
    ⟨some 47, Op.index 9 (Operand.tmp 46) (Operand.const (Value.int IntKind.i64 0)), none⟩,
    ⟨some 48, Op.move (Operand.tmp 1), none⟩,
    ⟨some 49, Op.index 9 (Operand.tmp 48) (Operand.const (Value.int IntKind.i64 0)), none⟩,
    ⟨some 50, Op.binOp BinOp.eql 5 (Operand.tmp 47) (Operand.tmp 49) 5, none⟩,
    ⟨some 51, Op.move (Operand.tmp 50), none⟩,
    ⟨some 52, Op.move (Operand.tmp 0), some (51, true)⟩,
    ⟨some 53, Op.slice 9 (Operand.tmp 52) (some (Operand.const (Value.int IntKind.i64 1))) none none, some (51, true)⟩,
    ⟨some 54, Op.move (Operand.tmp 1), some (51, true)⟩,
    ⟨some 55, Op.slice 9 (Operand.tmp 54) (some (Operand.const (Value.int IntKind.i64 1))) none none, some (51, true)⟩,
    ⟨some 56, Op.call { callee := Callee.value (Operand.func 71), args := #[Operand.tmp 53, Operand.tmp 55], argTypes := #[9, 9] }, some (51, true)⟩,
    ⟨some 57, Op.pick (Operand.tmp 51) (Operand.tmp 56) (Operand.const (Value.bool false)), none⟩,
    ⟨some 4, Op.assign (Operand.tmp 57), none⟩]
theorem dl71_9 : lowOps d71_9 d71_9.toList = some l71_9 := by kernel_rfl
theorem dx71_9 : lexOK d71_9.toList = true := by kernel_rfl
noncomputable def L71 : LC := (.seq (.reg [⟨some 4, Op.assign (Operand.const (Value.bool false)), none⟩])
  (.seq (.seq (.reg [⟨some 5, Op.move (Operand.tmp 1), none⟩,
    ⟨some 6, Op.binOp BinOp.eql 9 (Operand.tmp 5) (Operand.const (Value.string { data := #[] })) 9, none⟩])
  (.cond (Operand.tmp 6) (.seq (.reg [⟨some 7, Op.move (Operand.tmp 0), none⟩,
    ⟨some 8, Op.binOp BinOp.eql 9 (Operand.tmp 7) (Operand.const (Value.string { data := #[] })) 9, none⟩,
    ⟨some 4, Op.assign (Operand.tmp 8), none⟩])
  .ret)
  .skip))
  (.seq (.seq (.reg [⟨some 9, Op.move (Operand.tmp 1), none⟩,
    ⟨some 10, Op.index 9 (Operand.tmp 9) (Operand.const (Value.int IntKind.i64 0)), none⟩,
    ⟨some 11, Op.binOp BinOp.eql 5 (Operand.tmp 10) (Operand.const (Value.int IntKind.u8 42)) 5, none⟩])
  (.cond (Operand.tmp 11) (.seq (.reg [⟨some 12, Op.move (Operand.tmp 0), none⟩,
    ⟨some 13, Op.move (Operand.tmp 1), none⟩,
    ⟨some 14, Op.slice 9 (Operand.tmp 13) (some (Operand.const (Value.int IntKind.i64 1))) none none, none⟩,
    ⟨some 15, Op.call { callee := Callee.value (Operand.func 71), args := #[Operand.tmp 12, Operand.tmp 14], argTypes := #[9, 9] }, none⟩,
    ⟨some 16, Op.move (Operand.tmp 15), none⟩,
    ⟨some 17, Op.move (Operand.tmp 0), some (16, false)⟩,
    ⟨some 18, Op.binOp BinOp.neq 9 (Operand.tmp 17) (Operand.const (Value.string { data := #[] })) 9, some (16, false)⟩,
    ⟨some 19, Op.move (Operand.tmp 18), some (16, false)⟩,
    ⟨some 20, Op.move (Operand.tmp 0), some (19, true)⟩,
    ⟨some 21, Op.index 9 (Operand.tmp 20) (Operand.const (Value.int IntKind.i64 0)), some (19, true)⟩,
    ⟨some 22, Op.call { callee := Callee.value (Operand.func 70), args := #[Operand.tmp 21], argTypes := #[5] }, some (19, true)⟩,
    ⟨some 23, Op.pick (Operand.tmp 19) (Operand.tmp 22) (Operand.const (Value.bool false)), some (16, false)⟩,
    ⟨some 24, Op.move (Operand.tmp 23), some (16, false)⟩,
    ⟨some 25, Op.move (Operand.tmp 0), some (24, true)⟩,
    ⟨some 26, Op.slice 9 (Operand.tmp 25) (some (Operand.const (Value.int IntKind.i64 1))) none none, some (24, true)⟩,
    ⟨some 27, Op.move (Operand.tmp 1), some (24, true)⟩,
    ⟨some 28, Op.call { callee := Callee.value (Operand.func 71), args := #[Operand.tmp 26, Operand.tmp 27], argTypes := #[9, 9] }, some (24, true)⟩,
    ⟨some 29, Op.pick (Operand.tmp 24) (Operand.tmp 28) (Operand.const (Value.bool false)), some (16, false)⟩,
    ⟨some 30, Op.pick (Operand.tmp 16) (Operand.const (Value.bool true)) (Operand.tmp 29), none⟩,
    ⟨some 4, Op.assign (Operand.tmp 30), none⟩])
  .ret)
  .skip))
  (.seq (.seq (.reg [⟨some 31, Op.move (Operand.tmp 0), none⟩,
    ⟨some 32, Op.binOp BinOp.eql 9 (Operand.tmp 31) (Operand.const (Value.string { data := #[] })) 9, none⟩])
  (.cond (Operand.tmp 32) (.seq (.reg [⟨some 4, Op.assign (Operand.const (Value.bool false)), none⟩])
  .ret)
  .skip))
  (.seq (.seq (.reg [⟨some 33, Op.move (Operand.tmp 1), none⟩,
    ⟨some 34, Op.index 9 (Operand.tmp 33) (Operand.const (Value.int IntKind.i64 0)), none⟩,
    ⟨some 35, Op.binOp BinOp.eql 5 (Operand.tmp 34) (Operand.const (Value.int IntKind.u8 63)) 5, none⟩])
  (.cond (Operand.tmp 35) (.seq (.draw 8 d71_8)
  .ret)
  .skip))
  (.seq (.draw 9 d71_9)
  .ret))))))
theorem low71 : Try.f71.body.bind low = some L71 := by kernel_rfl
theorem call71 {args : List AV} {H : List AO} {R : AV → List AO → Prop} (h : LW Try.prog L71 (endL Try.prog [ResultVar.tmp 4] R) (args ++ List.replicate (58 - args.length) (.v undef)) H) : ACall Try.prog 71 args H R :=
  ACall_of_LW Try.func71 low71 (by decide) rfl rfl h
noncomputable def L72_b0 : LC := (.seq (.seq (.reg [⟨some 11, Op.move (Operand.tmp 8), none⟩,
    ⟨some 12, Op.move (Operand.tmp 2), none⟩,
    ⟨some 13, Op.binOp BinOp.leq 3 (Operand.tmp 11) (Operand.tmp 12) 3, none⟩,
    ⟨some 14, Op.move (Operand.tmp 13), none⟩,
    ⟨some 15, Op.move (Operand.tmp 8), some (14, true)⟩,
    ⟨some 16, Op.move (Operand.tmp 0), some (14, true)⟩,
    ⟨some 17, Op.call { callee := Callee.builtin Builtin.len, args := #[Operand.tmp 16], argTypes := #[81] }, some (14, true)⟩,
    ⟨some 18, Op.binOp BinOp.lss 3 (Operand.tmp 15) (Operand.tmp 17) 3, some (14, true)⟩,
    ⟨some 19, Op.pick (Operand.tmp 14) (Operand.tmp 18) (Operand.const (Value.bool false)), none⟩])
  (.cond (Operand.tmp 19) .skip
  (.exit 0)))
  (.seq (.block 1 (.reg [⟨some 22, Op.move (Operand.tmp 7), none⟩,
    ⟨some 23, Op.move (Operand.tmp 0), none⟩,
    ⟨some 24, Op.move (Operand.tmp 8), none⟩,
    ⟨some 25, Op.indexAddr 81 (Operand.tmp 23) (Operand.tmp 24), none⟩,
    ⟨some 26, Op.load 3 (Operand.tmp 25), none⟩,
    ⟨some 27, Op.binOp BinOp.add 3 (Operand.tmp 22) (Operand.tmp 26) 3, none⟩,
    ⟨some 7, Op.assign (Operand.tmp 27), none⟩]))
  (.reg [⟨some 20, Op.move (Operand.tmp 8), none⟩,
    ⟨some 21, Op.binOp BinOp.add 3 (Operand.tmp 20) (Operand.const (Value.int IntKind.i64 1)) 3, none⟩,
    ⟨some 8, Op.assign (Operand.tmp 21), none⟩])))
noncomputable def L72 : LC := (.seq (.reg [⟨some 6, Op.assign (Operand.const (Value.int IntKind.i64 0)), none⟩])
  (.seq (.reg [⟨some 7, Op.assign (Operand.const (Value.int IntKind.i64 0)), none⟩])
  (.seq (.seq (.reg [⟨some 9, Op.move (Operand.tmp 1), none⟩,
    ⟨some 10, Op.call { callee := Callee.builtin Builtin.max, args := #[Operand.tmp 9, Operand.const (Value.int IntKind.i64 0)], argTypes := #[3, 3] }, none⟩,
    ⟨some 8, Op.assign (Operand.tmp 10), none⟩])
  (.block 0 (.loop L72_b0)))
  (.seq (.reg [⟨some 28, Op.move (Operand.tmp 7), none⟩,
    ⟨some 6, Op.assign (Operand.tmp 28), none⟩])
  .ret))))
theorem low72 : Try.f72.body.bind low = some L72 := by kernel_rfl
theorem callm72 {k : Nat} {args : List AV} {H : List AO} {R : AV → List AO → Prop} (h : MX Try.prog k L72 (endM Try.prog k [ResultVar.tmp 6] R) (args ++ List.replicate (29 - args.length) (.v undef)) H) : AFn Try.prog 72 k args H R :=
  AFn_of_MW Try.func72 low72 (by decide) rfl rfl (MX_ok h)
theorem callp72 {args : List AV} {r : AV} (h : MX Try.prog 0 L72 (endM Try.prog 0 [ResultVar.tmp 6] (fun v Ho => v = r ∧ Ho = [])) (args ++ List.replicate (29 - args.length) (.v undef)) []) : APure Try.prog 72 args r := APure_of (callm72 h)
noncomputable def L74_b0 : LC := (.seq (.seq (.reg [⟨some 57, Op.move (Operand.tmp 8), none⟩,
    ⟨some 58, Op.move (Operand.tmp 9), none⟩,
    ⟨some 59, Op.binOp BinOp.lss 3 (Operand.tmp 57) (Operand.tmp 58) 3, none⟩])
  (.cond (Operand.tmp 59) .skip
  (.exit 1)))
  (.block 2 (.seq (.seq (.reg [⟨some 60, Op.move (Operand.tmp 0), none⟩,
    ⟨some 61, Op.move (Operand.tmp 8), none⟩,
    ⟨some 62, Op.index 9 (Operand.tmp 60) (Operand.tmp 61), none⟩,
    ⟨some 63, Op.move (Operand.tmp 6), none⟩,
    ⟨some 64, Op.binOp BinOp.neq 5 (Operand.tmp 62) (Operand.tmp 63) 5, none⟩])
  (.cond (Operand.tmp 64) (.seq (.reg [⟨some 65, Op.move (Operand.tmp 0), none⟩,
    ⟨some 66, Op.move (Operand.tmp 8), none⟩,
    ⟨some 67, Op.binOp BinOp.add 3 (Operand.tmp 66) (Operand.const (Value.int IntKind.i64 1)) 3, none⟩,
    ⟨some 68, Op.move (Operand.tmp 9), none⟩,
    ⟨some 69, Op.slice 9 (Operand.tmp 65) (some (Operand.tmp 67)) (some (Operand.tmp 68)) none, none⟩,
    ⟨some 70, Op.move (Operand.tmp 6), none⟩,
    ⟨some 71, Op.call { callee := Callee.value (Operand.func 58), args := #[Operand.tmp 69, Operand.tmp 70], argTypes := #[9, 5] }, none⟩,
    ⟨some 11, Op.assign (Operand.tmp 71), none⟩])
  (.seq (.seq (.reg [⟨some 72, Op.move (Operand.tmp 11), none⟩,
    ⟨some 73, Op.binOp BinOp.lss 3 (Operand.tmp 72) (Operand.const (Value.int IntKind.i64 0)) 3, none⟩])
  (.cond (Operand.tmp 73) (.seq (.reg [⟨some 4, Op.assign (Operand.const (Value.int IntKind.i64 (-1))), none⟩])
  .ret)
  .skip))
  (.reg [⟨some 74, Op.move (Operand.tmp 8), none⟩,
    ⟨some 75, Op.move (Operand.tmp 11), none⟩,
    ⟨some 76, Op.binOp BinOp.add 3 (Operand.tmp 75) (Operand.const (Value.int IntKind.i64 1)) 3, none⟩,
    ⟨some 77, Op.binOp BinOp.add 3 (Operand.tmp 74) (Operand.tmp 76) 3, none⟩,
    ⟨some 8, Op.assign (Operand.tmp 77), none⟩])))
  .skip))
  (.seq (.seq (.reg [⟨some 78, Op.move (Operand.tmp 0), none⟩,
    ⟨some 79, Op.move (Operand.tmp 8), none⟩,
    ⟨some 80, Op.binOp BinOp.add 3 (Operand.tmp 79) (Operand.const (Value.int IntKind.i64 1)) 3, none⟩,
    ⟨some 81, Op.index 9 (Operand.tmp 78) (Operand.tmp 80), none⟩,
    ⟨some 82, Op.move (Operand.tmp 7), none⟩,
    ⟨some 83, Op.binOp BinOp.eql 5 (Operand.tmp 81) (Operand.tmp 82) 5, none⟩,
    ⟨some 84, Op.move (Operand.tmp 83), none⟩,
    ⟨some 85, Op.move (Operand.tmp 0), some (84, true)⟩,
    ⟨some 86, Op.move (Operand.tmp 8), some (84, true)⟩,
    ⟨some 87, Op.move (Operand.tmp 8), some (84, true)⟩,
    ⟨some 88, Op.move (Operand.tmp 5), some (84, true)⟩,
    ⟨some 89, Op.binOp BinOp.add 3 (Operand.tmp 87) (Operand.tmp 88) 3, some (84, true)⟩,
    ⟨some 90, Op.slice 9 (Operand.tmp 85) (some (Operand.tmp 86)) (some (Operand.tmp 89)) none, some (84, true)⟩,
    ⟨some 91, Op.move (Operand.tmp 1), some (84, true)⟩,
    ⟨some 92, Op.binOp BinOp.eql 9 (Operand.tmp 90) (Operand.tmp 91) 9, some (84, true)⟩,
    ⟨some 93, Op.pick (Operand.tmp 84) (Operand.tmp 92) (Operand.const (Value.bool false)), none⟩])
  (.cond (Operand.tmp 93) (.seq (.reg [⟨some 94, Op.move (Operand.tmp 8), none⟩,
    ⟨some 4, Op.assign (Operand.tmp 94), none⟩])
  .ret)
  .skip))
  (.seq (.reg [⟨some 95, Op.move (Operand.tmp 8), none⟩,
    ⟨some 96, Op.binOp BinOp.add 3 (Operand.tmp 95) (Operand.const (Value.int IntKind.i64 1)) 3, none⟩,
    ⟨some 8, Op.assign (Operand.tmp 96), none⟩])
  (.seq (.reg [⟨some 97, Op.move (Operand.tmp 10), none⟩,
    ⟨some 98, Op.binOp BinOp.add 3 (Operand.tmp 97) (Operand.const (Value.int IntKind.i64 1)) 3, none⟩,
    ⟨some 10, Op.assign (Operand.tmp 98), none⟩])
  (.seq (.reg [⟨some 99, Op.move (Operand.tmp 5), none⟩,
    ⟨some 100, Op.load 3 (Operand.global 0), none⟩,
    ⟨some 101, Op.binOp BinOp.leq 3 (Operand.tmp 99) (Operand.tmp 100) 3, none⟩,
    ⟨some 102, Op.move (Operand.tmp 101), none⟩,
    ⟨some 103, Op.move (Operand.tmp 10), some (102, true)⟩,
    ⟨some 104, Op.move (Operand.tmp 8), some (102, true)⟩,
    ⟨some 105, Op.call { callee := Callee.value (Operand.func 87), args := #[Operand.tmp 104], argTypes := #[3] }, some (102, true)⟩,
    ⟨some 106, Op.binOp BinOp.gtr 3 (Operand.tmp 103) (Operand.tmp 105) 3, some (102, true)⟩,
    ⟨some 107, Op.pick (Operand.tmp 102) (Operand.tmp 106) (Operand.const (Value.bool false)), none⟩])
  (.cond (Operand.tmp 107) (.seq (.reg [⟨some 108, Op.move (Operand.tmp 0), none⟩,
    ⟨some 109, Op.move (Operand.tmp 8), none⟩,
    ⟨some 110, Op.slice 9 (Operand.tmp 108) (some (Operand.tmp 109)) none none, none⟩,
    ⟨some 111, Op.move (Operand.tmp 1), none⟩,
    ⟨some 112, Op.call { callee := Callee.value (Operand.func 86), args := #[Operand.tmp 110, Operand.tmp 111], argTypes := #[9, 9] }, none⟩,
    ⟨some 12, Op.assign (Operand.tmp 112), none⟩])
  (.seq (.seq (.reg [⟨some 113, Op.move (Operand.tmp 12), none⟩,
    ⟨some 114, Op.binOp BinOp.geq 3 (Operand.tmp 113) (Operand.const (Value.int IntKind.i64 0)) 3, none⟩])
  (.cond (Operand.tmp 114) (.seq (.reg [⟨some 115, Op.move (Operand.tmp 12), none⟩,
    ⟨some 116, Op.move (Operand.tmp 8), none⟩,
    ⟨some 117, Op.binOp BinOp.add 3 (Operand.tmp 115) (Operand.tmp 116) 3, none⟩,
    ⟨some 4, Op.assign (Operand.tmp 117), none⟩])
  .ret)
  .skip))
  (.seq (.reg [⟨some 4, Op.assign (Operand.const (Value.int IntKind.i64 (-1))), none⟩])
  .ret)))
  (.seq (.reg [⟨some 118, Op.move (Operand.tmp 5), none⟩,
    ⟨some 119, Op.load 3 (Operand.global 0), none⟩,
    ⟨some 120, Op.binOp BinOp.gtr 3 (Operand.tmp 118) (Operand.tmp 119) 3, none⟩,
    ⟨some 121, Op.move (Operand.tmp 120), none⟩,
    ⟨some 122, Op.move (Operand.tmp 10), some (121, true)⟩,
    ⟨some 123, Op.move (Operand.tmp 8), some (121, true)⟩,
    ⟨some 124, Op.binOp BinOp.shr 3 (Operand.tmp 123) (Operand.const (Value.int IntKind.u64 4)) 97, some (121, true)⟩,
    ⟨some 125, Op.binOp BinOp.add 3 (Operand.const (Value.int IntKind.i64 4)) (Operand.tmp 124) 3, some (121, true)⟩,
    ⟨some 126, Op.binOp BinOp.geq 3 (Operand.tmp 122) (Operand.tmp 125) 3, some (121, true)⟩,
    ⟨some 127, Op.pick (Operand.tmp 121) (Operand.tmp 126) (Operand.const (Value.bool false)), none⟩,
    ⟨some 128, Op.move (Operand.tmp 127), none⟩,
    ⟨some 129, Op.move (Operand.tmp 8), some (128, true)⟩,
    ⟨some 130, Op.move (Operand.tmp 9), some (128, true)⟩,
    ⟨some 131, Op.binOp BinOp.lss 3 (Operand.tmp 129) (Operand.tmp 130) 3, some (128, true)⟩,
    ⟨some 132, Op.pick (Operand.tmp 128) (Operand.tmp 131) (Operand.const (Value.bool false)), none⟩])
  (.cond (Operand.tmp 132) (.seq (.reg [⟨some 133, Op.move (Operand.tmp 0), none⟩,
    ⟨some 134, Op.move (Operand.tmp 8), none⟩,
    ⟨some 135, Op.slice 9 (Operand.tmp 133) (some (Operand.tmp 134)) none none, none⟩,
    ⟨some 136, Op.move (Operand.tmp 1), none⟩,
    ⟨some 137, Op.call { callee := Callee.value (Operand.func 88), args := #[Operand.tmp 135, Operand.tmp 136], argTypes := #[9, 9] }, none⟩,
    ⟨some 13, Op.assign (Operand.tmp 137), none⟩])
  (.seq (.seq (.reg [⟨some 138, Op.move (Operand.tmp 13), none⟩,
    ⟨some 139, Op.binOp BinOp.lss 3 (Operand.tmp 138) (Operand.const (Value.int IntKind.i64 0)) 3, none⟩])
  (.cond (Operand.tmp 139) (.seq (.reg [⟨some 4, Op.assign (Operand.const (Value.int IntKind.i64 (-1))), none⟩])
  .ret)
  .skip))
  (.seq (.reg [⟨some 140, Op.move (Operand.tmp 8), none⟩,
    ⟨some 141, Op.move (Operand.tmp 13), none⟩,
    ⟨some 142, Op.binOp BinOp.add 3 (Operand.tmp 140) (Operand.tmp 141) 3, none⟩,
    ⟨some 4, Op.assign (Operand.tmp 142), none⟩])
  .ret)))
  .skip))))))))))
noncomputable def L74 : LC := (.seq (.reg [⟨some 4, Op.assign (Operand.const (Value.int IntKind.i64 0)), none⟩])
  (.seq (.reg [⟨some 14, Op.move (Operand.tmp 1), none⟩,
    ⟨some 15, Op.call { callee := Callee.builtin Builtin.len, args := #[Operand.tmp 14], argTypes := #[9] }, none⟩,
    ⟨some 5, Op.assign (Operand.tmp 15), none⟩])
  (.seq (.block 0 (.seq (.reg [⟨some 17, Op.move (Operand.tmp 5), none⟩,
    ⟨some 18, Op.binOp BinOp.eql 3 (Operand.tmp 17) (Operand.const (Value.int IntKind.i64 0)) 3, none⟩,
    ⟨some 19, Op.move (Operand.tmp 18), none⟩,
    ⟨some 20, Op.move (Operand.tmp 1), some (19, false)⟩,
    ⟨some 21, Op.move (Operand.tmp 0), some (19, false)⟩,
    ⟨some 22, Op.binOp BinOp.eql 9 (Operand.tmp 20) (Operand.tmp 21) 9, some (19, false)⟩,
    ⟨some 23, Op.pick (Operand.tmp 19) (Operand.const (Value.bool true)) (Operand.tmp 22), none⟩,
    ⟨some 16, Op.assign (Operand.tmp 23), none⟩])
  (.cond (Operand.tmp 16) (.seq (.reg [⟨some 4, Op.assign (Operand.const (Value.int IntKind.i64 0)), none⟩])
  .ret)
  (.seq (.reg [⟨some 25, Op.move (Operand.tmp 5), none⟩,
    ⟨some 26, Op.binOp BinOp.eql 3 (Operand.tmp 25) (Operand.const (Value.int IntKind.i64 1)) 3, none⟩,
    ⟨some 24, Op.assign (Operand.tmp 26), none⟩])
  (.cond (Operand.tmp 24) (.seq (.reg [⟨some 27, Op.move (Operand.tmp 0), none⟩,
    ⟨some 28, Op.move (Operand.tmp 1), none⟩,
    ⟨some 29, Op.index 9 (Operand.tmp 28) (Operand.const (Value.int IntKind.i64 0)), none⟩,
    ⟨some 30, Op.call { callee := Callee.value (Operand.func 58), args := #[Operand.tmp 27, Operand.tmp 29], argTypes := #[9, 5] }, none⟩,
    ⟨some 4, Op.assign (Operand.tmp 30), none⟩])
  .ret)
  (.seq (.reg [⟨some 32, Op.move (Operand.tmp 5), none⟩,
    ⟨some 33, Op.move (Operand.tmp 0), none⟩,
    ⟨some 34, Op.call { callee := Callee.builtin Builtin.len, args := #[Operand.tmp 33], argTypes := #[9] }, none⟩,
    ⟨some 35, Op.binOp BinOp.geq 3 (Operand.tmp 32) (Operand.tmp 34) 3, none⟩,
    ⟨some 31, Op.assign (Operand.tmp 35), none⟩])
  (.cond (Operand.tmp 31) (.seq (.reg [⟨some 4, Op.assign (Operand.const (Value.int IntKind.i64 (-1))), none⟩])
  .ret)
  (.seq (.reg [⟨some 37, Op.move (Operand.tmp 5), none⟩,
    ⟨some 38, Op.load 3 (Operand.global 0), none⟩,
    ⟨some 39, Op.binOp BinOp.leq 3 (Operand.tmp 37) (Operand.tmp 38) 3, none⟩,
    ⟨some 40, Op.move (Operand.tmp 39), none⟩,
    ⟨some 41, Op.move (Operand.tmp 0), some (40, true)⟩,
    ⟨some 42, Op.call { callee := Callee.builtin Builtin.len, args := #[Operand.tmp 41], argTypes := #[9] }, some (40, true)⟩,
    ⟨some 43, Op.binOp BinOp.leq 3 (Operand.tmp 42) (Operand.const (Value.int IntKind.i64 64)) 3, some (40, true)⟩,
    ⟨some 44, Op.pick (Operand.tmp 40) (Operand.tmp 43) (Operand.const (Value.bool false)), none⟩,
    ⟨some 36, Op.assign (Operand.tmp 44), none⟩])
  (.cond (Operand.tmp 36) (.seq (.reg [⟨some 45, Op.move (Operand.tmp 0), none⟩,
    ⟨some 46, Op.move (Operand.tmp 1), none⟩,
    ⟨some 47, Op.call { callee := Callee.value (Operand.func 86), args := #[Operand.tmp 45, Operand.tmp 46], argTypes := #[9, 9] }, none⟩,
    ⟨some 4, Op.assign (Operand.tmp 47), none⟩])
  .ret)
  .skip)))))))))
  (.seq (.reg [⟨some 48, Op.move (Operand.tmp 1), none⟩,
    ⟨some 49, Op.index 9 (Operand.tmp 48) (Operand.const (Value.int IntKind.i64 0)), none⟩,
    ⟨some 6, Op.assign (Operand.tmp 49), none⟩])
  (.seq (.reg [⟨some 50, Op.move (Operand.tmp 1), none⟩,
    ⟨some 51, Op.index 9 (Operand.tmp 50) (Operand.const (Value.int IntKind.i64 1)), none⟩,
    ⟨some 7, Op.assign (Operand.tmp 51), none⟩])
  (.seq (.reg [⟨some 8, Op.assign (Operand.const (Value.int IntKind.i64 0)), none⟩])
  (.seq (.reg [⟨some 52, Op.move (Operand.tmp 0), none⟩,
    ⟨some 53, Op.call { callee := Callee.builtin Builtin.len, args := #[Operand.tmp 52], argTypes := #[9] }, none⟩,
    ⟨some 54, Op.move (Operand.tmp 5), none⟩,
    ⟨some 55, Op.binOp BinOp.sub 3 (Operand.tmp 53) (Operand.tmp 54) 3, none⟩,
    ⟨some 56, Op.binOp BinOp.add 3 (Operand.tmp 55) (Operand.const (Value.int IntKind.i64 1)) 3, none⟩,
    ⟨some 9, Op.assign (Operand.tmp 56), none⟩])
  (.seq (.reg [⟨some 10, Op.assign (Operand.const (Value.int IntKind.i64 0)), none⟩])
  (.seq (.block 1 (.loop L74_b0))
  (.seq (.reg [⟨some 4, Op.assign (Operand.const (Value.int IntKind.i64 (-1))), none⟩])
  .ret))))))))))
theorem low74 : Try.f74.body.bind low = some L74 := by kernel_rfl
theorem call74 {args : List AV} {H : List AO} {R : AV → List AO → Prop} (h : LW Try.prog L74 (endL Try.prog [ResultVar.tmp 4] R) (args ++ List.replicate (143 - args.length) (.v undef)) H) : ACall Try.prog 74 args H R :=
  ACall_of_LW Try.func74 low74 (by decide) rfl rfl h
noncomputable def d75_3 : Array Oper := drawOps Try.f75 3
def l75_3 : List LOp := [⟨some 13, Op.move (Operand.tmp 0), none⟩,
    ⟨some 14, Op.move (Operand.tmp 7), none⟩,
    ⟨some 15, Op.slice 9 (Operand.tmp 13) none (some (Operand.tmp 14)) none, none⟩,
    ⟨some 16, Op.move (Operand.tmp 0), none⟩,
    ⟨some 17, Op.move (Operand.tmp 7), none⟩,
    ⟨some 18, Op.move (Operand.tmp 1), none⟩,
    ⟨some 19, Op.call { callee := Callee.builtin Builtin.len, args := #[Operand.tmp 18], argTypes := #[9] }, none⟩,
    ⟨some 20, Op.binOp BinOp.add 3 (Operand.tmp 17) (Operand.tmp 19) 3, none⟩,
    ⟨some 21, Op.slice 9 (Operand.tmp 16) (some (Operand.tmp 20)) none none, none⟩,
    ⟨some 4, Op.assign (Operand.tmp 15), none⟩,
    ⟨some 5, Op.assign (Operand.tmp 21), none⟩,
    ⟨some 6, Op.assign (Operand.const (Value.bool true)), none⟩]
theorem dl75_3 : lowOps d75_3 d75_3.toList = some l75_3 := by kernel_rfl
theorem dx75_3 : lexOK d75_3.toList = true := by kernel_rfl
noncomputable def L75 : LC := (.seq (.reg [⟨some 4, Op.assign (Operand.const (Value.string { data := #[] })), none⟩,
    ⟨some 5, Op.assign (Operand.const (Value.string { data := #[] })), none⟩,
    ⟨some 6, Op.assign (Operand.const (Value.bool false)), none⟩])
  (.seq (.seq (.reg [⟨some 8, Op.move (Operand.tmp 0), none⟩,
    ⟨some 9, Op.move (Operand.tmp 1), none⟩,
    ⟨some 10, Op.call { callee := Callee.value (Operand.func 74), args := #[Operand.tmp 8, Operand.tmp 9], argTypes := #[9, 9] }, none⟩,
    ⟨some 7, Op.assign (Operand.tmp 10), none⟩])
  (.seq (.reg [⟨some 11, Op.move (Operand.tmp 7), none⟩,
    ⟨some 12, Op.binOp BinOp.geq 3 (Operand.tmp 11) (Operand.const (Value.int IntKind.i64 0)) 3, none⟩])
  (.cond (Operand.tmp 12) (.seq (.draw 3 d75_3)
  .ret)
  .skip)))
  (.seq (.reg [⟨some 22, Op.move (Operand.tmp 0), none⟩,
    ⟨some 4, Op.assign (Operand.tmp 22), none⟩,
    ⟨some 5, Op.assign (Operand.const (Value.string { data := #[] })), none⟩,
    ⟨some 6, Op.assign (Operand.const (Value.bool false)), none⟩])
  .ret)))
theorem low75 : Try.f75.body.bind low = some L75 := by kernel_rfl
theorem call75 {args : List AV} {H : List AO} {R : AV → List AO → Prop} (h : LW Try.prog L75 (endL Try.prog [ResultVar.tmp 4, ResultVar.tmp 5, ResultVar.tmp 6] R) (args ++ List.replicate (23 - args.length) (.v undef)) H) : ACall Try.prog 75 args H R :=
  ACall_of_LW Try.func75 low75 (by decide) rfl rfl h
noncomputable def L76_b0 : LC := (.seq (.seq (.reg [⟨some 4, Op.move (Operand.tmp 3), none⟩,
    ⟨some 5, Op.move (Operand.tmp 0), none⟩,
    ⟨some 6, Op.call { callee := Callee.builtin Builtin.len, args := #[Operand.tmp 5], argTypes := #[9] }, none⟩,
    ⟨some 7, Op.binOp BinOp.lss 3 (Operand.tmp 4) (Operand.tmp 6) 3, none⟩,
    ⟨some 8, Op.move (Operand.tmp 7), none⟩,
    ⟨some 9, Op.move (Operand.tmp 0), some (8, true)⟩,
    ⟨some 10, Op.move (Operand.tmp 3), some (8, true)⟩,
    ⟨some 11, Op.index 9 (Operand.tmp 9) (Operand.tmp 10), some (8, true)⟩,
    ⟨some 12, Op.call { callee := Callee.value (Operand.func 89), args := #[Operand.tmp 11], argTypes := #[5] }, some (8, true)⟩,
    ⟨some 13, Op.pick (Operand.tmp 8) (Operand.tmp 12) (Operand.const (Value.bool false)), none⟩])
  (.cond (Operand.tmp 13) .skip
  (.exit 0)))
  (.block 1 (.reg [⟨some 14, Op.move (Operand.tmp 3), none⟩,
    ⟨some 15, Op.binOp BinOp.add 3 (Operand.tmp 14) (Operand.const (Value.int IntKind.i64 1)) 3, none⟩,
    ⟨some 3, Op.assign (Operand.tmp 15), none⟩])))
noncomputable def L76 : LC := (.seq (.reg [⟨some 2, Op.assign (Operand.const (Value.int IntKind.i64 0)), none⟩])
  (.seq (.reg [⟨some 3, Op.assign (Operand.const (Value.int IntKind.i64 0)), none⟩])
  (.seq (.block 0 (.loop L76_b0))
  (.seq (.reg [⟨some 16, Op.move (Operand.tmp 3), none⟩,
    ⟨some 2, Op.assign (Operand.tmp 16), none⟩])
  .ret))))
theorem low76 : Try.f76.body.bind low = some L76 := by kernel_rfl
theorem callm76 {k : Nat} {args : List AV} {H : List AO} {R : AV → List AO → Prop} (h : MX Try.prog k L76 (endM Try.prog k [ResultVar.tmp 2] R) (args ++ List.replicate (17 - args.length) (.v undef)) H) : AFn Try.prog 76 k args H R :=
  AFn_of_MW Try.func76 low76 (by decide) rfl rfl (MX_ok h)
theorem callp76 {args : List AV} {r : AV} (h : MX Try.prog 0 L76 (endM Try.prog 0 [ResultVar.tmp 2] (fun v Ho => v = r ∧ Ho = [])) (args ++ List.replicate (17 - args.length) (.v undef)) []) : APure Try.prog 76 args r := APure_of (callm76 h)
noncomputable def L77 : LC := (.seq (.reg [⟨some 4, Op.assign (Operand.const (Value.bool false)), none⟩])
  (.seq (.reg [⟨some 5, Op.move (Operand.tmp 0), none⟩,
    ⟨some 6, Op.move (Operand.tmp 1), none⟩,
    ⟨some 7, Op.call { callee := Callee.value (Operand.func 90), args := #[Operand.tmp 5, Operand.tmp 6], argTypes := #[71, 80] }, none⟩,
    ⟨some 8, Op.binOp BinOp.geq 3 (Operand.tmp 7) (Operand.const (Value.int IntKind.i64 0)) 3, none⟩,
    ⟨some 4, Op.assign (Operand.tmp 8), none⟩])
  .ret))
theorem low77 : Try.f77.body.bind low = some L77 := by kernel_rfl
theorem call77 {args : List AV} {H : List AO} {R : AV → List AO → Prop} (h : LW Try.prog L77 (endL Try.prog [ResultVar.tmp 4] R) (args ++ List.replicate (9 - args.length) (.v undef)) H) : ACall Try.prog 77 args H R :=
  ACall_of_LW Try.func77 low77 (by decide) rfl rfl h
noncomputable def L78 : LC := (.seq (.reg [⟨some 2, Op.assign (Operand.const (Value.bool false)), none⟩])
  (.seq (.reg [⟨some 3, Op.move (Operand.tmp 0), none⟩,
    ⟨some 4, Op.binOp BinOp.neq 5 (Operand.tmp 3) (Operand.const (Value.int IntKind.u8 63)) 5, none⟩,
    ⟨some 5, Op.move (Operand.tmp 4), none⟩,
    ⟨some 6, Op.move (Operand.tmp 0), some (5, true)⟩,
    ⟨some 7, Op.call { callee := Callee.value (Operand.func 79), args := #[Operand.tmp 6], argTypes := #[5] }, some (5, true)⟩,
    ⟨some 8, Op.unOp UnOp.not 4 (Operand.tmp 7), some (5, true)⟩,
    ⟨some 9, Op.pick (Operand.tmp 5) (Operand.tmp 8) (Operand.const (Value.bool false)), none⟩,
    ⟨some 2, Op.assign (Operand.tmp 9), none⟩])
  .ret))
theorem low78 : Try.f78.body.bind low = some L78 := by kernel_rfl
theorem call78 {args : List AV} {H : List AO} {R : AV → List AO → Prop} (h : LW Try.prog L78 (endL Try.prog [ResultVar.tmp 2] R) (args ++ List.replicate (10 - args.length) (.v undef)) H) : ACall Try.prog 78 args H R :=
  ACall_of_LW Try.func78 low78 (by decide) rfl rfl h
noncomputable def L79 : LC := (.seq (.reg [⟨some 2, Op.assign (Operand.const (Value.bool false)), none⟩])
  (.seq (.reg [⟨some 3, Op.move (Operand.tmp 0), none⟩,
    ⟨some 4, Op.call { callee := Callee.value (Operand.func 82), args := #[Operand.tmp 3], argTypes := #[5] }, none⟩,
    ⟨some 5, Op.move (Operand.tmp 4), none⟩,
    ⟨some 6, Op.move (Operand.tmp 0), some (5, true)⟩,
    ⟨some 7, Op.binOp BinOp.lss 5 (Operand.tmp 6) (Operand.const (Value.int IntKind.u8 65)) 5, some (5, true)⟩,
    ⟨some 8, Op.move (Operand.tmp 7), some (5, true)⟩,
    ⟨some 9, Op.move (Operand.tmp 0), some (8, false)⟩,
    ⟨some 10, Op.binOp BinOp.gtr 5 (Operand.tmp 9) (Operand.const (Value.int IntKind.u8 90)) 5, some (8, false)⟩,
    ⟨some 11, Op.pick (Operand.tmp 8) (Operand.const (Value.bool true)) (Operand.tmp 10), some (5, true)⟩,
    ⟨some 12, Op.pick (Operand.tmp 5) (Operand.tmp 11) (Operand.const (Value.bool false)), none⟩,
    ⟨some 2, Op.assign (Operand.tmp 12), none⟩])
  .ret))
theorem low79 : Try.f79.body.bind low = some L79 := by kernel_rfl
theorem call79 {args : List AV} {H : List AO} {R : AV → List AO → Prop} (h : LW Try.prog L79 (endL Try.prog [ResultVar.tmp 2] R) (args ++ List.replicate (13 - args.length) (.v undef)) H) : ACall Try.prog 79 args H R :=
  ACall_of_LW Try.func79 low79 (by decide) rfl rfl h
noncomputable def d80_6 : Array Oper := drawOps Try.f80 6
def l80_6 : List LOp := [⟨some 16, Op.move (Operand.tmp 0), none⟩,
    ⟨some 17, Op.move (Operand.tmp 5), none⟩,
    ⟨some 18, Op.index 9 (Operand.tmp 16) (Operand.tmp 17), none⟩,
    ⟨some 19, Op.move (Operand.tmp 1), none⟩,
    ⟨some 20, Op.move (Operand.tmp 5), none⟩,
    ⟨some 21, Op.index 9 (Operand.tmp 19) (Operand.tmp 20), none⟩,
    ⟨some 22, Op.binOp BinOp.neq 5 (Operand.tmp 18) (Operand.tmp 21) 5, none⟩,
    ⟨some 23, Op.move (Operand.tmp 22), none⟩,
    ⟨some 24, Op.move (Operand.tmp 1), some (23, true)⟩,
    ⟨some 25, Op.move (Operand.tmp 5), some (23, true)⟩,
    ⟨some 26, Op.index 9 (Operand.tmp 24) (Operand.tmp 25), some (23, true)⟩,
    ⟨some 27, Op.binOp BinOp.neq 5 (Operand.tmp 26) (Operand.const (Value.int IntKind.u8 63)) 5, some (23, true)⟩,
    ⟨some 28, Op.move (Operand.tmp 27), some (23, true)⟩,
    ⟨some 29, Op.move (Operand.tmp 0), some (28, false)⟩,
    ⟨some 30, Op.move (Operand.tmp 5), some (28, false)⟩,
    ⟨some 31, Op.index 9 (Operand.tmp 29) (Operand.tmp 30), some (28, false)⟩,
    ⟨some 32, Op.call { callee := Callee.value (Operand.func 82), args := #[Operand.tmp 31], argTypes := #[5] }, some (28, false)⟩,
    ⟨some 33, Op.unOp UnOp.not 4 (Operand.tmp 32), some (28, false)⟩,
    ⟨some 34, Op.pick (Operand.tmp 28) (Operand.const (Value.bool true)) (Operand.tmp 33), some (23, true)⟩,
    ⟨some 35, Op.pick (Operand.tmp 23) (Operand.tmp 34) (Operand.const (Value.bool false)), none⟩]
theorem dl80_6 : lowOps d80_6 d80_6.toList = some l80_6 := by kernel_rfl
theorem dx80_6 : lexOK d80_6.toList = true := by kernel_rfl
noncomputable def L80_b0 : LC := (.seq (.reg [⟨some 14, Op.binOp BinOp.lss 3 (Operand.tmp 13) (Operand.tmp 12) 3, none⟩])
  (.seq (.cond (Operand.tmp 14) .skip
  (.exit 0))
  (.seq (.block 1 (.seq (.reg [⟨some 15, Op.move (Operand.tmp 13), none⟩,
    ⟨some 5, Op.assign (Operand.tmp 15), none⟩])
  (.seq (.draw 6 d80_6)
  (.cond (Operand.tmp 35) (.seq (.reg [⟨some 4, Op.assign (Operand.const (Value.bool false)), none⟩])
  .ret)
  .skip))))
  (.reg [⟨some 36, Op.binOp BinOp.add 3 (Operand.tmp 13) (Operand.const (Value.int IntKind.i64 1)) 3, none⟩,
    ⟨some 13, Op.move (Operand.tmp 36), none⟩]))))
noncomputable def L80 : LC := (.seq (.reg [⟨some 4, Op.assign (Operand.const (Value.bool false)), none⟩])
  (.seq (.seq (.reg [⟨some 6, Op.move (Operand.tmp 0), none⟩,
    ⟨some 7, Op.call { callee := Callee.builtin Builtin.len, args := #[Operand.tmp 6], argTypes := #[9] }, none⟩,
    ⟨some 8, Op.move (Operand.tmp 1), none⟩,
    ⟨some 9, Op.call { callee := Callee.builtin Builtin.len, args := #[Operand.tmp 8], argTypes := #[9] }, none⟩,
    ⟨some 10, Op.binOp BinOp.neq 3 (Operand.tmp 7) (Operand.tmp 9) 3, none⟩])
  (.cond (Operand.tmp 10) (.seq (.reg [⟨some 4, Op.assign (Operand.const (Value.bool false)), none⟩])
  .ret)
  .skip))
  (.seq (.seq (.reg [⟨some 11, Op.move (Operand.tmp 1), none⟩,
    ⟨some 12, Op.call { callee := Callee.builtin Builtin.len, args := #[Operand.tmp 11], argTypes := #[9] }, none⟩,
    ⟨some 13, Op.move (Operand.const (Value.int IntKind.i64 0)), none⟩])
  (.block 0 (.loop L80_b0)))
  (.seq (.reg [⟨some 4, Op.assign (Operand.const (Value.bool true)), none⟩])
  .ret))))
theorem low80 : Try.f80.body.bind low = some L80 := by kernel_rfl
theorem call80 {args : List AV} {H : List AO} {R : AV → List AO → Prop} (h : LW Try.prog L80 (endL Try.prog [ResultVar.tmp 4] R) (args ++ List.replicate (37 - args.length) (.v undef)) H) : ACall Try.prog 80 args H R :=
  ACall_of_LW Try.func80 low80 (by decide) rfl rfl h
noncomputable def L81 : LC := (.seq (.reg [⟨some 2, Op.assign (Operand.const (Value.bool false)), none⟩])
  (.seq (.reg [⟨some 3, Op.move (Operand.tmp 0), none⟩,
    ⟨some 4, Op.call { callee := Callee.value (Operand.func 82), args := #[Operand.tmp 3], argTypes := #[5] }, none⟩,
    ⟨some 5, Op.unOp UnOp.not 4 (Operand.tmp 4), none⟩,
    ⟨some 2, Op.assign (Operand.tmp 5), none⟩])
  .ret))
theorem low81 : Try.f81.body.bind low = some L81 := by kernel_rfl
theorem call81 {args : List AV} {H : List AO} {R : AV → List AO → Prop} (h : LW Try.prog L81 (endL Try.prog [ResultVar.tmp 2] R) (args ++ List.replicate (6 - args.length) (.v undef)) H) : ACall Try.prog 81 args H R :=
  ACall_of_LW Try.func81 low81 (by decide) rfl rfl h
noncomputable def L82 : LC := (.seq (.reg [⟨some 2, Op.assign (Operand.const (Value.bool false)), none⟩])
  (.seq (.reg [⟨some 6, Op.move (Operand.tmp 0), none⟩,
    ⟨some 7, Op.buildSlice 71 1 #[(0, Operand.tmp 6)], none⟩,
    ⟨some 8, Op.convert 71 9 (Operand.tmp 7), none⟩,
    ⟨some 9, Op.call { callee := Callee.value (Operand.func 91), args := #[Operand.tmp 8], argTypes := #[9] }, none⟩,
    ⟨some 5, Op.move (Operand.tmp 9), none⟩,
    ⟨some 10, Op.extract (Operand.tmp 5) 0, none⟩,
    ⟨some 11, Op.extract (Operand.tmp 5) 1, none⟩,
    ⟨some 3, Op.assign (Operand.tmp 10), none⟩,
    ⟨some 4, Op.assign (Operand.tmp 11), none⟩])
  (.seq (.reg [⟨some 12, Op.move (Operand.tmp 4), none⟩,
    ⟨some 13, Op.binOp BinOp.eql 32 (Operand.tmp 12) (Operand.const (Value.int IntKind.i64 0)) 32, none⟩,
    ⟨some 14, Op.move (Operand.tmp 13), none⟩,
    ⟨some 15, Op.move (Operand.tmp 3), some (14, true)⟩,
    ⟨some 16, Op.call { callee := Callee.builtin Builtin.len, args := #[Operand.tmp 15], argTypes := #[99] }, some (14, true)⟩,
    ⟨some 17, Op.binOp BinOp.eql 3 (Operand.tmp 16) (Operand.const (Value.int IntKind.i64 1)) 3, some (14, true)⟩,
    ⟨some 18, Op.pick (Operand.tmp 14) (Operand.tmp 17) (Operand.const (Value.bool false)), none⟩,
    ⟨some 2, Op.assign (Operand.tmp 18), none⟩])
  .ret)))
theorem low82 : Try.f82.body.bind low = some L82 := by kernel_rfl
theorem call82 {args : List AV} {H : List AO} {R : AV → List AO → Prop} (h : LW Try.prog L82 (endL Try.prog [ResultVar.tmp 2] R) (args ++ List.replicate (19 - args.length) (.v undef)) H) : ACall Try.prog 82 args H R :=
  ACall_of_LW Try.func82 low82 (by decide) rfl rfl h
noncomputable def L83 : LC := (.seq (.reg [⟨some 2, Op.assign (Operand.const (Value.bool false)), none⟩])
  (.seq (.reg [⟨some 3, Op.move (Operand.tmp 0), none⟩,
    ⟨some 4, Op.call { callee := Callee.value (Operand.func 79), args := #[Operand.tmp 3], argTypes := #[5] }, none⟩,
    ⟨some 5, Op.unOp UnOp.not 4 (Operand.tmp 4), none⟩,
    ⟨some 2, Op.assign (Operand.tmp 5), none⟩])
  .ret))
theorem low83 : Try.f83.body.bind low = some L83 := by kernel_rfl
theorem call83 {args : List AV} {H : List AO} {R : AV → List AO → Prop} (h : LW Try.prog L83 (endL Try.prog [ResultVar.tmp 2] R) (args ++ List.replicate (6 - args.length) (.v undef)) H) : ACall Try.prog 83 args H R :=
  ACall_of_LW Try.func83 low83 (by decide) rfl rfl h
noncomputable def L89 : LC := (.seq (.reg [⟨some 2, Op.assign (Operand.const (Value.bool false)), none⟩])
  (.seq (.reg [⟨some 3, Op.move (Operand.tmp 0), none⟩,
    ⟨some 4, Op.binOp BinOp.geq 5 (Operand.tmp 3) (Operand.const (Value.int IntKind.u8 48)) 5, none⟩,
    ⟨some 5, Op.move (Operand.tmp 4), none⟩,
    ⟨some 6, Op.move (Operand.tmp 0), some (5, true)⟩,
    ⟨some 7, Op.binOp BinOp.leq 5 (Operand.tmp 6) (Operand.const (Value.int IntKind.u8 57)) 5, some (5, true)⟩,
    ⟨some 8, Op.pick (Operand.tmp 5) (Operand.tmp 7) (Operand.const (Value.bool false)), none⟩,
    ⟨some 2, Op.assign (Operand.tmp 8), none⟩])
  .ret))
theorem low89 : Try.f89.body.bind low = some L89 := by kernel_rfl
theorem callm89 {k : Nat} {args : List AV} {H : List AO} {R : AV → List AO → Prop} (h : MX Try.prog k L89 (endM Try.prog k [ResultVar.tmp 2] R) (args ++ List.replicate (9 - args.length) (.v undef)) H) : AFn Try.prog 89 k args H R :=
  AFn_of_MW Try.func89 low89 (by decide) rfl rfl (MX_ok h)
theorem callp89 {args : List AV} {r : AV} (h : MX Try.prog 0 L89 (endM Try.prog 0 [ResultVar.tmp 2] (fun v Ho => v = r ∧ Ho = [])) (args ++ List.replicate (9 - args.length) (.v undef)) []) : APure Try.prog 89 args r := APure_of (callm89 h)
noncomputable def L90_b0 : LC := (.seq (.reg [⟨some 9, Op.binOp BinOp.lss 3 (Operand.tmp 8) (Operand.tmp 7) 3, none⟩])
  (.seq (.cond (Operand.tmp 9) .skip
  (.exit 0))
  (.seq (.block 1 (.seq (.reg [⟨some 10, Op.move (Operand.tmp 8), none⟩,
    ⟨some 5, Op.assign (Operand.tmp 10), none⟩])
  (.seq (.reg [⟨some 11, Op.move (Operand.tmp 1), none⟩,
    ⟨some 12, Op.move (Operand.tmp 0), none⟩,
    ⟨some 13, Op.move (Operand.tmp 5), none⟩,
    ⟨some 14, Op.indexAddr 71 (Operand.tmp 12) (Operand.tmp 13), none⟩,
    ⟨some 15, Op.load 5 (Operand.tmp 14), none⟩,
    ⟨some 16, Op.call { callee := Callee.value (Operand.tmp 11), args := #[Operand.tmp 15], argTypes := #[5] }, none⟩])
  (.cond (Operand.tmp 16) (.seq (.reg [⟨some 17, Op.move (Operand.tmp 5), none⟩,
    ⟨some 4, Op.assign (Operand.tmp 17), none⟩])
  .ret)
  .skip))))
  (.reg [⟨some 18, Op.binOp BinOp.add 3 (Operand.tmp 8) (Operand.const (Value.int IntKind.i64 1)) 3, none⟩,
    ⟨some 8, Op.move (Operand.tmp 18), none⟩]))))
noncomputable def L90 : LC := (.seq (.reg [⟨some 4, Op.assign (Operand.const (Value.int IntKind.i64 0)), none⟩])
  (.seq (.seq (.reg [⟨some 6, Op.move (Operand.tmp 0), none⟩,
    ⟨some 7, Op.call { callee := Callee.builtin Builtin.len, args := #[Operand.tmp 6], argTypes := #[71] }, none⟩,
    ⟨some 8, Op.move (Operand.const (Value.int IntKind.i64 0)), none⟩])
  (.block 0 (.loop L90_b0)))
  (.seq (.reg [⟨some 4, Op.assign (Operand.const (Value.int IntKind.i64 (-1))), none⟩])
  .ret)))
theorem low90 : Try.f90.body.bind low = some L90 := by kernel_rfl
theorem call90 {args : List AV} {H : List AO} {R : AV → List AO → Prop} (h : LW Try.prog L90 (endL Try.prog [ResultVar.tmp 4] R) (args ++ List.replicate (19 - args.length) (.v undef)) H) : ACall Try.prog 90 args H R :=
  ACall_of_LW Try.func90 low90 (by decide) rfl rfl h
noncomputable def L91_b0 : LC := (.seq (.reg [⟨some 18, Op.binOp BinOp.lss 3 (Operand.tmp 17) (Operand.tmp 16) 3, none⟩])
  (.seq (.cond (Operand.tmp 18) .skip
  (.exit 0))
  (.seq (.block 1 (.seq (.reg [⟨some 19, Op.move (Operand.tmp 17), none⟩,
    ⟨some 20, Op.indexAddr 71 (Operand.tmp 15) (Operand.tmp 17), none⟩,
    ⟨some 21, Op.load 5 (Operand.tmp 20), none⟩,
    ⟨some 6, Op.assign (Operand.tmp 19), none⟩,
    ⟨some 7, Op.assign (Operand.tmp 21), none⟩])
  (.seq (.reg [⟨some 22, Op.move (Operand.tmp 5), none⟩,
    ⟨some 23, Op.call { callee := Callee.builtin Builtin.len, args := #[Operand.tmp 22], argTypes := #[99] }, none⟩,
    ⟨some 8, Op.assign (Operand.tmp 23), none⟩])
  (.block 2 (.seq (.reg [⟨some 32, Op.move (Operand.tmp 7), none⟩,
    ⟨some 33, Op.call { callee := Callee.value (Operand.func 93), args := #[Operand.tmp 32], argTypes := #[5] }, none⟩,
    ⟨some 34, Op.unOp UnOp.not 4 (Operand.tmp 33), none⟩,
    ⟨some 31, Op.assign (Operand.tmp 34), none⟩])
  (.cond (Operand.tmp 31) .skip
  (.seq (.reg [⟨some 36, Op.move (Operand.tmp 8), none⟩,
    ⟨some 37, Op.binOp BinOp.gtr 3 (Operand.tmp 36) (Operand.const (Value.int IntKind.i64 0)) 3, none⟩,
    ⟨some 38, Op.move (Operand.tmp 37), none⟩,
    ⟨some 39, Op.move (Operand.tmp 5), some (38, true)⟩,
    ⟨some 40, Op.move (Operand.tmp 8), some (38, true)⟩,
    ⟨some 41, Op.binOp BinOp.sub 3 (Operand.tmp 40) (Operand.const (Value.int IntKind.i64 1)) 3, some (38, true)⟩,
    ⟨some 42, Op.indexAddr 99 (Operand.tmp 39) (Operand.tmp 41), some (38, true)⟩,
    ⟨some 43, Op.fieldAddr 106 (Operand.tmp 42) 1, some (38, true)⟩,
    ⟨some 44, Op.load 3 (Operand.tmp 43), some (38, true)⟩,
    ⟨some 45, Op.move (Operand.tmp 6), some (38, true)⟩,
    ⟨some 46, Op.binOp BinOp.eql 3 (Operand.tmp 44) (Operand.tmp 45) 3, some (38, true)⟩,
    ⟨some 47, Op.pick (Operand.tmp 38) (Operand.tmp 46) (Operand.const (Value.bool false)), none⟩,
    ⟨some 35, Op.assign (Operand.tmp 47), none⟩])
  (.cond (Operand.tmp 35) (.reg [⟨some 48, Op.move (Operand.tmp 5), none⟩,
    ⟨some 49, Op.move (Operand.tmp 8), none⟩,
    ⟨some 50, Op.binOp BinOp.sub 3 (Operand.tmp 49) (Operand.const (Value.int IntKind.i64 1)) 3, none⟩,
    ⟨some 51, Op.indexAddr 99 (Operand.tmp 48) (Operand.tmp 50), none⟩,
    ⟨some 52, Op.fieldAddr 106 (Operand.tmp 51) 1, none⟩,
    ⟨some 53, Op.load 3 (Operand.tmp 52), none⟩,
    ⟨some 54, Op.binOp BinOp.add 3 (Operand.tmp 53) (Operand.const (Value.int IntKind.i64 1)) 3, none⟩,
    ⟨some 55, Op.indexAddr 99 (Operand.tmp 48) (Operand.tmp 50), none⟩,
    ⟨some 56, Op.fieldAddr 106 (Operand.tmp 55) 1, none⟩,
    ⟨none, Op.store 3 (Operand.tmp 56) (Operand.tmp 54), none⟩])
  (.reg [⟨some 24, Op.move (Operand.tmp 5), none⟩,
    ⟨some 25, Op.move (Operand.tmp 6), none⟩,
    ⟨some 26, Op.move (Operand.tmp 6), none⟩,
    ⟨some 27, Op.binOp BinOp.add 3 (Operand.tmp 26) (Operand.const (Value.int IntKind.i64 1)) 3, none⟩,
    ⟨some 28, Op.build 106 #[(0, Operand.tmp 25), (1, Operand.tmp 27)], none⟩,
    ⟨some 29, Op.buildSlice 99 1 #[(0, Operand.tmp 28)], none⟩,
    ⟨some 30, Op.call { callee := Callee.builtin Builtin.append, args := #[Operand.tmp 24, Operand.tmp 29], argTypes := #[99, 99] }, none⟩,
    ⟨some 5, Op.assign (Operand.tmp 30), none⟩])))))))))
  (.reg [⟨some 57, Op.binOp BinOp.add 3 (Operand.tmp 17) (Operand.const (Value.int IntKind.i64 1)) 3, none⟩,
    ⟨some 17, Op.move (Operand.tmp 57), none⟩]))))
noncomputable def L91 : LC := (.seq (.reg [⟨some 2, Op.assign (Operand.const (Value.slice none 0 0)), none⟩,
    ⟨some 3, Op.assign (Operand.const (Value.int IntKind.i64 0)), none⟩])
  (.seq (.seq (.reg [⟨some 9, Op.move (Operand.tmp 0), none⟩,
    ⟨some 10, Op.call { callee := Callee.value (Operand.func 34), args := #[Operand.tmp 9], argTypes := #[9] }, none⟩,
    ⟨some 4, Op.assign (Operand.tmp 10), none⟩])
  (.seq (.reg [⟨some 11, Op.move (Operand.tmp 4), none⟩,
    ⟨some 12, Op.binOp BinOp.neq 32 (Operand.tmp 11) (Operand.const (Value.int IntKind.i64 0)) 32, none⟩])
  (.cond (Operand.tmp 12) (.seq (.reg [⟨some 13, Op.move (Operand.tmp 4), none⟩,
    ⟨some 2, Op.assign (Operand.const (Value.slice none 0 0)), none⟩,
    ⟨some 3, Op.assign (Operand.tmp 13), none⟩])
  .ret)
  .skip)))
  (.seq (.reg [⟨some 5, Op.assign (Operand.const (Value.slice none 0 0)), none⟩])
  (.seq (.seq (.reg [⟨some 14, Op.move (Operand.tmp 0), none⟩,
    ⟨some 15, Op.convert 9 71 (Operand.tmp 14), none⟩,
    ⟨some 16, Op.call { callee := Callee.builtin Builtin.len, args := #[Operand.tmp 15], argTypes := #[71] }, none⟩,
    ⟨some 17, Op.move (Operand.const (Value.int IntKind.i64 0)), none⟩])
  (.block 0 (.loop L91_b0)))
  (.seq (.reg [⟨some 58, Op.move (Operand.tmp 5), none⟩,
    ⟨some 2, Op.assign (Operand.tmp 58), none⟩,
    ⟨some 3, Op.assign (Operand.const (Value.int IntKind.i64 0)), none⟩])
  .ret)))))
theorem low91 : Try.f91.body.bind low = some L91 := by kernel_rfl
theorem call91 {args : List AV} {H : List AO} {R : AV → List AO → Prop} (h : LW Try.prog L91 (endL Try.prog [ResultVar.tmp 2, ResultVar.tmp 3] R) (args ++ List.replicate (59 - args.length) (.v undef)) H) : ACall Try.prog 91 args H R :=
  ACall_of_LW Try.func91 low91 (by decide) rfl rfl h
noncomputable def L93 : LC := (.seq (.reg [⟨some 2, Op.assign (Operand.const (Value.bool false)), none⟩])
  (.seq (.reg [⟨some 3, Op.move (Operand.tmp 0), none⟩,
    ⟨some 4, Op.binOp BinOp.geq 5 (Operand.tmp 3) (Operand.const (Value.int IntKind.u8 32)) 5, none⟩,
    ⟨some 5, Op.move (Operand.tmp 4), none⟩,
    ⟨some 6, Op.move (Operand.tmp 0), some (5, true)⟩,
    ⟨some 7, Op.binOp BinOp.leq 5 (Operand.tmp 6) (Operand.const (Value.int IntKind.u8 126)) 5, some (5, true)⟩,
    ⟨some 8, Op.pick (Operand.tmp 5) (Operand.tmp 7) (Operand.const (Value.bool false)), none⟩,
    ⟨some 9, Op.move (Operand.tmp 8), none⟩,
    ⟨some 10, Op.move (Operand.tmp 0), some (9, true)⟩,
    ⟨some 11, Op.call { callee := Callee.value (Operand.func 44), args := #[Operand.const (Value.string { data := #[32, 46, 44, 59, 58, 33, 63, 34, 45, 91, 93, 60, 62, 123, 125] }), Operand.tmp 10], argTypes := #[9, 5] }, some (9, true)⟩,
    ⟨some 12, Op.binOp BinOp.lss 3 (Operand.tmp 11) (Operand.const (Value.int IntKind.i64 0)) 3, some (9, true)⟩,
    ⟨some 13, Op.pick (Operand.tmp 9) (Operand.tmp 12) (Operand.const (Value.bool false)), none⟩,
    ⟨some 2, Op.assign (Operand.tmp 13), none⟩])
  .ret))
theorem low93 : Try.f93.body.bind low = some L93 := by kernel_rfl
theorem call93 {args : List AV} {H : List AO} {R : AV → List AO → Prop} (h : LW Try.prog L93 (endL Try.prog [ResultVar.tmp 2] R) (args ++ List.replicate (14 - args.length) (.v undef)) H) : ACall Try.prog 93 args H R :=
  ACall_of_LW Try.func93 low93 (by decide) rfl rfl h
end Go.Proofs.Ytimblogmflmhkaa
