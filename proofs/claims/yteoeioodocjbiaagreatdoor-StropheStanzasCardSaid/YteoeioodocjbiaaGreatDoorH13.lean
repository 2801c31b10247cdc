/- Part 13 of the texts that lead to stropheStanzasCard_holds. No condition. -/
import Derived.Test.YteoeioodocjbiaaGreatDoorH12
set_option linter.unusedSimpArgs false
set_option linter.unusedVariables false
set_option linter.unnecessarySimpa false
namespace Go.Proofs.YteoeioodocjbiaaGreatDoor
open Go Go.Abs
set_option maxRecDepth 100000
noncomputable def L3 : LC := (.seq (.reg [⟨some 4, Op.assign (Operand.const (Value.bool false)), none⟩])
  (.seq (.seq (.reg [⟨some 10, Op.call { callee := Callee.value (Operand.func 4), args := #[], argTypes := #[] }, none⟩,
    ⟨some 11, Op.unOp UnOp.not 4 (Operand.tmp 10), none⟩,
    ⟨some 12, Op.move (Operand.tmp 11), none⟩,
    ⟨some 13, Op.move (Operand.tmp 0), some (12, false)⟩,
    ⟨some 14, Op.call { callee := Callee.builtin Builtin.len, args := #[Operand.tmp 13], argTypes := #[22] }, some (12, false)⟩,
    ⟨some 15, Op.binOp BinOp.gtr 3 (Operand.tmp 14) (Operand.const (Value.int IntKind.i64 410)) 3, some (12, false)⟩,
    ⟨some 16, Op.pick (Operand.tmp 12) (Operand.const (Value.bool true)) (Operand.tmp 15), none⟩])
  (.cond (Operand.tmp 16) (.seq (.reg [⟨some 17, Op.call { callee := Callee.value (Operand.func 4), args := #[], argTypes := #[] }, none⟩,
    ⟨some 4, Op.assign (Operand.tmp 17), none⟩])
  .ret)
  .skip))
  (.seq (.reg [⟨some 19, Op.move (Operand.tmp 0), none⟩,
    ⟨some 20, Op.call { callee := Callee.value (Operand.func 6), args := #[Operand.tmp 19], argTypes := #[22] }, none⟩,
    ⟨some 21, Op.move (Operand.tmp 1), none⟩,
    ⟨some 22, Op.call { callee := Callee.value (Operand.func 5), args := #[Operand.tmp 20, Operand.tmp 21], argTypes := #[22, 3] }, none⟩,
    ⟨some 18, Op.move (Operand.tmp 22), none⟩,
    ⟨some 23, Op.extract (Operand.tmp 18) 0, none⟩,
    ⟨some 24, Op.extract (Operand.tmp 18) 1, none⟩,
    ⟨some 5, Op.assign (Operand.tmp 23), none⟩,
    ⟨some 6, Op.assign (Operand.tmp 24), none⟩])
  (.seq (.reg [⟨some 26, Op.move (Operand.tmp 0), none⟩,
    ⟨some 27, Op.move (Operand.tmp 1), none⟩,
    ⟨some 28, Op.call { callee := Callee.value (Operand.func 7), args := #[Operand.tmp 26, Operand.tmp 27], argTypes := #[22, 3] }, none⟩,
    ⟨some 25, Op.move (Operand.tmp 28), none⟩,
    ⟨some 29, Op.extract (Operand.tmp 25) 0, none⟩,
    ⟨some 30, Op.extract (Operand.tmp 25) 1, none⟩,
    ⟨some 7, Op.assign (Operand.tmp 29), none⟩,
    ⟨some 8, Op.assign (Operand.tmp 30), none⟩])
  (.seq (.reg [⟨some 31, Op.move (Operand.tmp 5), none⟩,
    ⟨some 32, Op.move (Operand.tmp 7), none⟩,
    ⟨some 33, Op.call { callee := Callee.value (Operand.func 8), args := #[Operand.tmp 31, Operand.tmp 32, Operand.func 9], argTypes := #[24, 24, 30] }, none⟩,
    ⟨some 9, Op.assign (Operand.tmp 33), none⟩])
  (.seq (.seq (.reg [⟨some 34, Op.move (Operand.tmp 6), none⟩,
    ⟨some 35, Op.move (Operand.tmp 8), none⟩,
    ⟨some 36, Op.binOp BinOp.neq 25 (Operand.tmp 34) (Operand.tmp 35) 25, none⟩,
    ⟨some 37, Op.move (Operand.tmp 36), none⟩,
    ⟨some 38, Op.move (Operand.tmp 9), some (37, false)⟩,
    ⟨some 39, Op.unOp UnOp.not 4 (Operand.tmp 38), some (37, false)⟩,
    ⟨some 40, Op.pick (Operand.tmp 37) (Operand.const (Value.bool true)) (Operand.tmp 39), none⟩,
    ⟨some 41, Op.move (Operand.tmp 40), none⟩,
    ⟨some 42, Op.move (Operand.tmp 6), some (41, false)⟩,
    ⟨some 43, Op.binOp BinOp.neq 25 (Operand.tmp 42) (Operand.const (Value.int IntKind.i64 0)) 25, some (41, false)⟩,
    ⟨some 44, Op.pick (Operand.tmp 41) (Operand.const (Value.bool true)) (Operand.tmp 43), none⟩])
  (.cond (Operand.tmp 44) (.seq (.reg [⟨some 45, Op.move (Operand.tmp 6), none⟩,
    ⟨some 46, Op.move (Operand.tmp 8), none⟩,
    ⟨some 47, Op.binOp BinOp.eql 25 (Operand.tmp 45) (Operand.tmp 46) 25, none⟩,
    ⟨some 48, Op.move (Operand.tmp 47), none⟩,
    ⟨some 49, Op.move (Operand.tmp 9), some (48, true)⟩,
    ⟨some 50, Op.pick (Operand.tmp 48) (Operand.tmp 49) (Operand.const (Value.bool false)), none⟩,
    ⟨some 4, Op.assign (Operand.tmp 50), none⟩])
  .ret)
  .skip))
  (.seq (.reg [⟨some 51, Op.move (Operand.tmp 5), none⟩,
    ⟨some 52, Op.call { callee := Callee.value (Operand.func 10), args := #[Operand.tmp 51], argTypes := #[24] }, none⟩,
    ⟨some 53, Op.move (Operand.tmp 0), none⟩,
    ⟨some 54, Op.call { callee := Callee.value (Operand.func 9), args := #[Operand.tmp 52, Operand.tmp 53], argTypes := #[22, 22] }, none⟩,
    ⟨some 4, Op.assign (Operand.tmp 54), none⟩])
  .ret)))))))
theorem low3 : Tryz.f3.body.bind low = some L3 := by kernel_rfl
theorem callm3 {k : Nat} {args : List AV} {H : List AO} {R : AV → List AO → Prop} (h : MX Tryz.prog k L3 (endM Tryz.prog k [ResultVar.tmp 4] R) (args ++ List.replicate (55 - args.length) (.v undef)) H) : AFn Tryz.prog 3 k args H R :=
  AFn_of_MW Tryz.func3 low3 (by decide) rfl rfl (MX_ok h)
theorem callp3 {args : List AV} {r : AV} (h : MX Tryz.prog 0 L3 (endM Tryz.prog 0 [ResultVar.tmp 4] (fun v Ho => v = r ∧ Ho = [])) (args ++ List.replicate (55 - args.length) (.v undef)) []) : APure Tryz.prog 3 args r := APure_of (callm3 h)
def drawInR : Code → Nat → Option (Array Oper)
  | .region id ops _, n => if id = n then some ops else none
  | .seq a b, n | .cond _ a b, n | .rangeFunc _ _ a b, n => match drawInR a n with
    | some x => some x
    | none => drawInR b n
  | .block _ b, n | .loop b, n => drawInR b n
  | _, _ => none
def drawOpsR (fn : Func) (n : Nat) : Array Oper := ((fn.body.bind fun c => drawInR c n)).getD #[]
noncomputable def d5_12 : Array Oper := drawOpsR Tryz.f5 12
def l5_12 : List LOp := [⟨some 33, Op.load 24 (Operand.tmp 6), none⟩,
    ⟨some 34, Op.move (Operand.tmp 7), none⟩,
    ⟨some 35, Op.call { callee := Callee.value (Operand.func 6), args := #[Operand.tmp 34], argTypes := #[22] }, none⟩,
    ⟨some 36, Op.buildSlice 24 1 #[(0, Operand.tmp 35)], none⟩,
    ⟨some 37, Op.call { callee := Callee.builtin Builtin.append, args := #[Operand.tmp 33, Operand.tmp 36], argTypes := #[24, 24] }, none⟩,
    ⟨none, Op.store 24 (Operand.tmp 6) (Operand.tmp 37), none⟩]
theorem dl5_12 : lowOps d5_12 d5_12.toList = some l5_12 := by kernel_rfl
theorem dx5_12 : lexOK d5_12.toList = true := by kernel_rfl
def an5_12 : List (List Nat) := [[], [], [1], [1, 2], [0, 1, 2, 3], [0, 1, 2, 3, 4]]
theorem ax5_12 : ancOK d5_12.toList an5_12 = true := by kernel_rfl
noncomputable def L5_p0 : LC := (.reg [⟨some 4, Op.assign (Operand.const (Value.slice none 0 0)), none⟩,
    ⟨some 5, Op.assign (Operand.const (Value.int IntKind.i64 0)), none⟩])
noncomputable def L5_p1 : LC := (.block 0 (.seq (.reg [⟨some 9, Op.move (Operand.tmp 0), none⟩,
    ⟨some 10, Op.call { callee := Callee.builtin Builtin.len, args := #[Operand.tmp 9], argTypes := #[22] }, none⟩,
    ⟨some 11, Op.binOp BinOp.eql 3 (Operand.tmp 10) (Operand.const (Value.int IntKind.i64 0)) 3, none⟩,
    ⟨some 8, Op.assign (Operand.tmp 11), none⟩])
  (.cond (Operand.tmp 8) (.seq (.reg [⟨some 4, Op.assign (Operand.const (Value.slice none 0 0)), none⟩,
    ⟨some 5, Op.assign (Operand.const (Value.int IntKind.i64 7)), none⟩])
  .ret)
  (.seq (.reg [⟨some 13, Op.move (Operand.tmp 0), none⟩,
    ⟨some 14, Op.call { callee := Callee.builtin Builtin.len, args := #[Operand.tmp 13], argTypes := #[22] }, none⟩,
    ⟨some 15, Op.binOp BinOp.gtr 3 (Operand.tmp 14) (Operand.const (Value.int IntKind.i64 400)) 3, none⟩,
    ⟨some 12, Op.assign (Operand.tmp 15), none⟩])
  (.cond (Operand.tmp 12) (.seq (.reg [⟨some 4, Op.assign (Operand.const (Value.slice none 0 0)), none⟩,
    ⟨some 5, Op.assign (Operand.const (Value.int IntKind.i64 3)), none⟩])
  .ret)
  (.seq (.reg [⟨some 17, Op.move (Operand.tmp 1), none⟩,
    ⟨some 18, Op.binOp BinOp.lss 3 (Operand.tmp 17) (Operand.const (Value.int IntKind.i64 1)) 3, none⟩,
    ⟨some 19, Op.move (Operand.tmp 18), none⟩,
    ⟨some 20, Op.move (Operand.tmp 1), some (19, false)⟩,
    ⟨some 21, Op.binOp BinOp.gtr 3 (Operand.tmp 20) (Operand.const (Value.int IntKind.i64 20)) 3, some (19, false)⟩,
    ⟨some 22, Op.pick (Operand.tmp 19) (Operand.const (Value.bool true)) (Operand.tmp 21), none⟩,
    ⟨some 16, Op.assign (Operand.tmp 22), none⟩])
  (.cond (Operand.tmp 16) (.seq (.reg [⟨some 4, Op.assign (Operand.const (Value.slice none 0 0)), none⟩,
    ⟨some 5, Op.assign (Operand.const (Value.int IntKind.i64 6)), none⟩])
  .ret)
  (.seq (.reg [⟨some 24, Op.move (Operand.tmp 0), none⟩,
    ⟨some 25, Op.call { callee := Callee.builtin Builtin.len, args := #[Operand.tmp 24], argTypes := #[22] }, none⟩,
    ⟨some 26, Op.move (Operand.tmp 1), none⟩,
    ⟨some 27, Op.binOp BinOp.rem 3 (Operand.tmp 25) (Operand.tmp 26) 3, none⟩,
    ⟨some 28, Op.binOp BinOp.neq 3 (Operand.tmp 27) (Operand.const (Value.int IntKind.i64 0)) 3, none⟩,
    ⟨some 23, Op.assign (Operand.tmp 28), none⟩])
  (.cond (Operand.tmp 23) (.seq (.reg [⟨some 4, Op.assign (Operand.const (Value.slice none 0 0)), none⟩,
    ⟨some 5, Op.assign (Operand.const (Value.int IntKind.i64 1)), none⟩])
  .ret)
  .skip)))))))))
noncomputable def L5_p2 : LC := (.reg [⟨some 6, Op.alloc 24, none⟩])
noncomputable def L5_p3 : LC := (.reg [⟨some 29, Op.move (Operand.tmp 0), none⟩,
    ⟨some 30, Op.move (Operand.tmp 1), none⟩,
    ⟨some 31, Op.call { callee := Callee.value (Operand.func 16), args := #[Operand.tmp 29, Operand.tmp 30], argTypes := #[22, 3] }, none⟩])
noncomputable def L5_p4 : LC := (.reg [⟨some 7, Op.assign (Operand.tmp 32), none⟩])
noncomputable def L5_p5 : LC := (.block 2 (.draw 12 d5_12))
noncomputable def L5_p6 : LC := (.seq (.reg [⟨some 38, Op.load 24 (Operand.tmp 6), none⟩,
    ⟨some 4, Op.assign (Operand.tmp 38), none⟩,
    ⟨some 5, Op.assign (Operand.const (Value.int IntKind.i64 0)), none⟩])
  .ret)
theorem body5 : ∃ c0 c1 c2 c3 c4 c5 c6 : Code, Tryz.f5.body = some (.seq c0 (.seq c1 (.seq c2 (.seq (.seq c3 (.block 1 (.rangeFunc (Operand.tmp 31) #[32] c4 c5))) c6)))) ∧ low c0 = some L5_p0 ∧ low c1 = some L5_p1 ∧ low c2 = some L5_p2 ∧ low c3 = some L5_p3 ∧ low c4 = some L5_p4 ∧ low c5 = some L5_p5 ∧ low c6 = some L5_p6 := ⟨_, _, _, _, _, _, _, rfl, by kernel_rfl, by kernel_rfl, by kernel_rfl, by kernel_rfl, by kernel_rfl, by kernel_rfl, by kernel_rfl⟩
noncomputable def L6 : LC := (.seq (.reg [⟨some 2, Op.assign (Operand.const (Value.slice none 0 0)), none⟩])
  (.seq (.seq (.reg [⟨some 3, Op.move (Operand.tmp 0), none⟩,
    ⟨some 4, Op.binOp BinOp.eql 22 (Operand.tmp 3) (Operand.const (Value.slice none 0 0)) 22, none⟩])
  (.cond (Operand.tmp 4) (.seq (.reg [⟨some 2, Op.assign (Operand.const (Value.slice none 0 0)), none⟩])
  .ret)
  .skip))
  (.seq (.reg [⟨some 5, Op.buildSlice 22 0 #[], none⟩,
    ⟨some 6, Op.move (Operand.tmp 0), none⟩,
    ⟨some 7, Op.call { callee := Callee.builtin Builtin.append, args := #[Operand.tmp 5, Operand.tmp 6], argTypes := #[22, 22] }, none⟩,
    ⟨some 2, Op.assign (Operand.tmp 7), none⟩])
  .ret)))
theorem low6 : Tryz.f6.body.bind low = some L6 := by kernel_rfl
theorem callm6 {k : Nat} {args : List AV} {H : List AO} {R : AV → List AO → Prop} (h : MX Tryz.prog k L6 (endM Tryz.prog k [ResultVar.tmp 2] R) (args ++ List.replicate (8 - args.length) (.v undef)) H) : AFn Tryz.prog 6 k args H R :=
  AFn_of_MW Tryz.func6 low6 (by decide) rfl rfl (MX_ok h)
theorem callp6 {args : List AV} {r : AV} (h : MX Tryz.prog 0 L6 (endM Tryz.prog 0 [ResultVar.tmp 2] (fun v Ho => v = r ∧ Ho = [])) (args ++ List.replicate (8 - args.length) (.v undef)) []) : APure Tryz.prog 6 args r := APure_of (callm6 h)
noncomputable def L7_b0 : LC := (.seq (.seq (.reg [⟨some 25, Op.move (Operand.tmp 7), none⟩,
    ⟨some 26, Op.move (Operand.tmp 0), none⟩,
    ⟨some 27, Op.call { callee := Callee.builtin Builtin.len, args := #[Operand.tmp 26], argTypes := #[22] }, none⟩,
    ⟨some 28, Op.binOp BinOp.lss 3 (Operand.tmp 25) (Operand.tmp 27) 3, none⟩])
  (.cond (Operand.tmp 28) .skip
  (.exit 0)))
  (.seq (.block 1 (.reg [⟨some 32, Op.move (Operand.tmp 6), none⟩,
    ⟨some 33, Op.buildSlice 22 0 #[], none⟩,
    ⟨some 34, Op.move (Operand.tmp 0), none⟩,
    ⟨some 35, Op.move (Operand.tmp 7), none⟩,
    ⟨some 36, Op.move (Operand.tmp 7), none⟩,
    ⟨some 37, Op.move (Operand.tmp 1), none⟩,
    ⟨some 38, Op.binOp BinOp.add 3 (Operand.tmp 36) (Operand.tmp 37) 3, none⟩,
    ⟨some 39, Op.slice 22 (Operand.tmp 34) (some (Operand.tmp 35)) (some (Operand.tmp 38)) none, none⟩,
    ⟨some 40, Op.call { callee := Callee.builtin Builtin.append, args := #[Operand.tmp 33, Operand.tmp 39], argTypes := #[22, 22] }, none⟩,
    ⟨some 41, Op.buildSlice 24 1 #[(0, Operand.tmp 40)], none⟩,
    ⟨some 42, Op.call { callee := Callee.builtin Builtin.append, args := #[Operand.tmp 32, Operand.tmp 41], argTypes := #[24, 24] }, none⟩,
    ⟨some 6, Op.assign (Operand.tmp 42), none⟩]))
  (.reg [⟨some 29, Op.move (Operand.tmp 7), none⟩,
    ⟨some 30, Op.move (Operand.tmp 1), none⟩,
    ⟨some 31, Op.binOp BinOp.add 3 (Operand.tmp 29) (Operand.tmp 30) 3, none⟩,
    ⟨some 7, Op.assign (Operand.tmp 31), none⟩])))
noncomputable def L7 : LC := (.seq (.reg [⟨some 4, Op.assign (Operand.const (Value.slice none 0 0)), none⟩,
    ⟨some 5, Op.assign (Operand.const (Value.int IntKind.i64 0)), none⟩])
  (.seq (.seq (.reg [⟨some 8, Op.move (Operand.tmp 0), none⟩,
    ⟨some 9, Op.call { callee := Callee.builtin Builtin.len, args := #[Operand.tmp 8], argTypes := #[22] }, none⟩,
    ⟨some 10, Op.binOp BinOp.eql 3 (Operand.tmp 9) (Operand.const (Value.int IntKind.i64 0)) 3, none⟩])
  (.cond (Operand.tmp 10) (.seq (.reg [⟨some 4, Op.assign (Operand.const (Value.slice none 0 0)), none⟩,
    ⟨some 5, Op.assign (Operand.const (Value.int IntKind.i64 7)), none⟩])
  .ret)
  .skip))
  (.seq (.seq (.reg [⟨some 11, Op.move (Operand.tmp 0), none⟩,
    ⟨some 12, Op.call { callee := Callee.builtin Builtin.len, args := #[Operand.tmp 11], argTypes := #[22] }, none⟩,
    ⟨some 13, Op.binOp BinOp.gtr 3 (Operand.tmp 12) (Operand.const (Value.int IntKind.i64 400)) 3, none⟩])
  (.cond (Operand.tmp 13) (.seq (.reg [⟨some 4, Op.assign (Operand.const (Value.slice none 0 0)), none⟩,
    ⟨some 5, Op.assign (Operand.const (Value.int IntKind.i64 3)), none⟩])
  .ret)
  .skip))
  (.seq (.seq (.reg [⟨some 14, Op.move (Operand.tmp 1), none⟩,
    ⟨some 15, Op.binOp BinOp.lss 3 (Operand.tmp 14) (Operand.const (Value.int IntKind.i64 1)) 3, none⟩,
    ⟨some 16, Op.move (Operand.tmp 15), none⟩,
    ⟨some 17, Op.move (Operand.tmp 1), some (16, false)⟩,
    ⟨some 18, Op.binOp BinOp.gtr 3 (Operand.tmp 17) (Operand.const (Value.int IntKind.i64 20)) 3, some (16, false)⟩,
    ⟨some 19, Op.pick (Operand.tmp 16) (Operand.const (Value.bool true)) (Operand.tmp 18), none⟩])
  (.cond (Operand.tmp 19) (.seq (.reg [⟨some 4, Op.assign (Operand.const (Value.slice none 0 0)), none⟩,
    ⟨some 5, Op.assign (Operand.const (Value.int IntKind.i64 6)), none⟩])
  .ret)
  .skip))
  (.seq (.seq (.reg [⟨some 20, Op.move (Operand.tmp 0), none⟩,
    ⟨some 21, Op.call { callee := Callee.builtin Builtin.len, args := #[Operand.tmp 20], argTypes := #[22] }, none⟩,
    ⟨some 22, Op.move (Operand.tmp 1), none⟩,
    ⟨some 23, Op.binOp BinOp.rem 3 (Operand.tmp 21) (Operand.tmp 22) 3, none⟩,
    ⟨some 24, Op.binOp BinOp.neq 3 (Operand.tmp 23) (Operand.const (Value.int IntKind.i64 0)) 3, none⟩])
  (.cond (Operand.tmp 24) (.seq (.reg [⟨some 4, Op.assign (Operand.const (Value.slice none 0 0)), none⟩,
    ⟨some 5, Op.assign (Operand.const (Value.int IntKind.i64 1)), none⟩])
  .ret)
  .skip))
  (.seq (.reg [⟨some 6, Op.assign (Operand.const (Value.slice none 0 0)), none⟩])
  (.seq (.seq (.reg [⟨some 7, Op.assign (Operand.const (Value.int IntKind.i64 0)), none⟩])
  (.block 0 (.loop L7_b0)))
  (.seq (.reg [⟨some 43, Op.move (Operand.tmp 6), none⟩,
    ⟨some 4, Op.assign (Operand.tmp 43), none⟩,
    ⟨some 5, Op.assign (Operand.const (Value.int IntKind.i64 0)), none⟩])
  .ret))))))))
theorem low7 : Tryz.f7.body.bind low = some L7 := by kernel_rfl
theorem callm7 {k : Nat} {args : List AV} {H : List AO} {R : AV → List AO → Prop} (h : MX Tryz.prog k L7 (endM Tryz.prog k [ResultVar.tmp 4, ResultVar.tmp 5] R) (args ++ List.replicate (44 - args.length) (.v undef)) H) : AFn Tryz.prog 7 k args H R :=
  AFn_of_MW Tryz.func7 low7 (by decide) rfl rfl (MX_ok h)
theorem callp7 {args : List AV} {r : AV} (h : MX Tryz.prog 0 L7 (endM Tryz.prog 0 [ResultVar.tmp 4, ResultVar.tmp 5] (fun v Ho => v = r ∧ Ho = [])) (args ++ List.replicate (44 - args.length) (.v undef)) []) : APure Tryz.prog 7 args r := APure_of (callm7 h)
noncomputable def L8_b0 : LC := (.seq (.reg [⟨some 18, Op.binOp BinOp.lss 3 (Operand.tmp 17) (Operand.tmp 16) 3, none⟩])
  (.seq (.cond (Operand.tmp 18) .skip
  (.exit 0))
  (.seq (.block 1 (.seq (.reg [⟨some 19, Op.move (Operand.tmp 17), none⟩,
    ⟨some 20, Op.indexAddr 24 (Operand.tmp 15) (Operand.tmp 17), none⟩,
    ⟨some 21, Op.load 22 (Operand.tmp 20), none⟩,
    ⟨some 7, Op.assign (Operand.tmp 19), none⟩,
    ⟨some 8, Op.assign (Operand.tmp 21), none⟩])
  (.seq (.reg [⟨some 22, Op.move (Operand.tmp 1), none⟩,
    ⟨some 23, Op.move (Operand.tmp 7), none⟩,
    ⟨some 24, Op.indexAddr 24 (Operand.tmp 22) (Operand.tmp 23), none⟩,
    ⟨some 25, Op.load 22 (Operand.tmp 24), none⟩,
    ⟨some 9, Op.assign (Operand.tmp 25), none⟩])
  (.seq (.reg [⟨some 26, Op.move (Operand.tmp 2), none⟩,
    ⟨some 27, Op.move (Operand.tmp 8), none⟩,
    ⟨some 28, Op.move (Operand.tmp 9), none⟩,
    ⟨some 29, Op.call { callee := Callee.value (Operand.tmp 26), args := #[Operand.tmp 27, Operand.tmp 28], argTypes := #[22, 22] }, none⟩,
    ⟨some 30, Op.unOp UnOp.not 4 (Operand.tmp 29), none⟩])
  (.cond (Operand.tmp 30) (.seq (.reg [⟨some 6, Op.assign (Operand.const (Value.bool false)), none⟩])
  .ret)
  .skip)))))
  (.reg [⟨some 31, Op.binOp BinOp.add 3 (Operand.tmp 17) (Operand.const (Value.int IntKind.i64 1)) 3, none⟩,
    ⟨some 17, Op.move (Operand.tmp 31), none⟩]))))
noncomputable def L8 : LC := (.seq (.reg [⟨some 6, Op.assign (Operand.const (Value.bool false)), none⟩])
  (.seq (.seq (.reg [⟨some 10, Op.move (Operand.tmp 0), none⟩,
    ⟨some 11, Op.call { callee := Callee.builtin Builtin.len, args := #[Operand.tmp 10], argTypes := #[24] }, none⟩,
    ⟨some 12, Op.move (Operand.tmp 1), none⟩,
    ⟨some 13, Op.call { callee := Callee.builtin Builtin.len, args := #[Operand.tmp 12], argTypes := #[24] }, none⟩,
    ⟨some 14, Op.binOp BinOp.neq 3 (Operand.tmp 11) (Operand.tmp 13) 3, none⟩])
  (.cond (Operand.tmp 14) (.seq (.reg [⟨some 6, Op.assign (Operand.const (Value.bool false)), none⟩])
  .ret)
  .skip))
  (.seq (.seq (.reg [⟨some 15, Op.move (Operand.tmp 0), none⟩,
    ⟨some 16, Op.call { callee := Callee.builtin Builtin.len, args := #[Operand.tmp 15], argTypes := #[24] }, none⟩,
    ⟨some 17, Op.move (Operand.const (Value.int IntKind.i64 0)), none⟩])
  (.block 0 (.loop L8_b0)))
  (.seq (.reg [⟨some 6, Op.assign (Operand.const (Value.bool true)), none⟩])
  .ret))))
theorem low8 : Tryz.f8.body.bind low = some L8 := by kernel_rfl
theorem callm8 {k : Nat} {args : List AV} {H : List AO} {R : AV → List AO → Prop} (h : MX Tryz.prog k L8 (endM Tryz.prog k [ResultVar.tmp 6] R) (args ++ List.replicate (32 - args.length) (.v undef)) H) : AFn Tryz.prog 8 k args H R :=
  AFn_of_MW Tryz.func8 low8 (by decide) rfl rfl (MX_ok h)
theorem callp8 {args : List AV} {r : AV} (h : MX Tryz.prog 0 L8 (endM Tryz.prog 0 [ResultVar.tmp 6] (fun v Ho => v = r ∧ Ho = [])) (args ++ List.replicate (32 - args.length) (.v undef)) []) : APure Tryz.prog 8 args r := APure_of (callm8 h)
noncomputable def d9_6 : Array Oper := drawOps Tryz.f9 6
def l9_6 : List LOp := [⟨some 16, Op.move (Operand.tmp 0), none⟩,
    ⟨some 17, Op.move (Operand.tmp 5), none⟩,
    ⟨some 18, Op.indexAddr 22 (Operand.tmp 16) (Operand.tmp 17), none⟩,
    ⟨some 19, Op.load 9 (Operand.tmp 18), none⟩,
    ⟨some 20, Op.move (Operand.tmp 1), none⟩,
    ⟨some 21, Op.move (Operand.tmp 5), none⟩,
    ⟨some 22, Op.indexAddr 22 (Operand.tmp 20) (Operand.tmp 21), none⟩,
    ⟨some 23, Op.load 9 (Operand.tmp 22), none⟩,
    ⟨some 24, Op.binOp BinOp.neq 9 (Operand.tmp 19) (Operand.tmp 23) 9, none⟩]
theorem dl9_6 : lowOps d9_6 d9_6.toList = some l9_6 := by kernel_rfl
theorem dx9_6 : lexOK d9_6.toList = true := by kernel_rfl
noncomputable def L9_b0 : LC := (.seq (.reg [⟨some 14, Op.binOp BinOp.lss 3 (Operand.tmp 13) (Operand.tmp 12) 3, none⟩])
  (.seq (.cond (Operand.tmp 14) .skip
  (.exit 0))
  (.seq (.block 1 (.seq (.reg [⟨some 15, Op.move (Operand.tmp 13), none⟩,
    ⟨some 5, Op.assign (Operand.tmp 15), none⟩])
  (.seq (.draw 6 d9_6)
  (.cond (Operand.tmp 24) (.seq (.reg [⟨some 4, Op.assign (Operand.const (Value.bool false)), none⟩])
  .ret)
  .skip))))
  (.reg [⟨some 25, Op.binOp BinOp.add 3 (Operand.tmp 13) (Operand.const (Value.int IntKind.i64 1)) 3, none⟩,
    ⟨some 13, Op.move (Operand.tmp 25), none⟩]))))
noncomputable def L9 : LC := (.seq (.reg [⟨some 4, Op.assign (Operand.const (Value.bool false)), none⟩])
  (.seq (.seq (.reg [⟨some 6, Op.move (Operand.tmp 0), none⟩,
    ⟨some 7, Op.call { callee := Callee.builtin Builtin.len, args := #[Operand.tmp 6], argTypes := #[22] }, none⟩,
    ⟨some 8, Op.move (Operand.tmp 1), none⟩,
    ⟨some 9, Op.call { callee := Callee.builtin Builtin.len, args := #[Operand.tmp 8], argTypes := #[22] }, none⟩,
    ⟨some 10, Op.binOp BinOp.neq 3 (Operand.tmp 7) (Operand.tmp 9) 3, none⟩])
  (.cond (Operand.tmp 10) (.seq (.reg [⟨some 4, Op.assign (Operand.const (Value.bool false)), none⟩])
  .ret)
  .skip))
  (.seq (.seq (.reg [⟨some 11, Op.move (Operand.tmp 0), none⟩,
    ⟨some 12, Op.call { callee := Callee.builtin Builtin.len, args := #[Operand.tmp 11], argTypes := #[22] }, none⟩,
    ⟨some 13, Op.move (Operand.const (Value.int IntKind.i64 0)), none⟩])
  (.block 0 (.loop L9_b0)))
  (.seq (.reg [⟨some 4, Op.assign (Operand.const (Value.bool true)), none⟩])
  .ret))))
theorem low9 : Tryz.f9.body.bind low = some L9 := by kernel_rfl
theorem callm9 {k : Nat} {args : List AV} {H : List AO} {R : AV → List AO → Prop} (h : MX Tryz.prog k L9 (endM Tryz.prog k [ResultVar.tmp 4] R) (args ++ List.replicate (26 - args.length) (.v undef)) H) : AFn Tryz.prog 9 k args H R :=
  AFn_of_MW Tryz.func9 low9 (by decide) rfl rfl (MX_ok h)
theorem callp9 {args : List AV} {r : AV} (h : MX Tryz.prog 0 L9 (endM Tryz.prog 0 [ResultVar.tmp 4] (fun v Ho => v = r ∧ Ho = [])) (args ++ List.replicate (26 - args.length) (.v undef)) []) : APure Tryz.prog 9 args r := APure_of (callm9 h)
noncomputable def L10_b0 : LC := (.seq (.reg [⟨some 12, Op.binOp BinOp.lss 3 (Operand.tmp 11) (Operand.tmp 10) 3, none⟩])
  (.seq (.cond (Operand.tmp 12) .skip
  (.exit 0))
  (.seq (.block 1 (.seq (.reg [⟨some 13, Op.indexAddr 24 (Operand.tmp 9) (Operand.tmp 11), none⟩,
    ⟨some 14, Op.load 22 (Operand.tmp 13), none⟩,
    ⟨some 5, Op.assign (Operand.tmp 14), none⟩])
  (.seq (.reg [⟨some 15, Op.move (Operand.tmp 3), none⟩,
    ⟨some 16, Op.move (Operand.tmp 5), none⟩,
    ⟨some 17, Op.call { callee := Callee.builtin Builtin.len, args := #[Operand.tmp 16], argTypes := #[22] }, none⟩,
    ⟨some 18, Op.binOp BinOp.add 3 (Operand.tmp 15) (Operand.tmp 17) 3, none⟩,
    ⟨some 3, Op.assign (Operand.tmp 18), none⟩])
  (.seq (.reg [⟨some 19, Op.move (Operand.tmp 3), none⟩,
    ⟨some 20, Op.binOp BinOp.lss 3 (Operand.tmp 19) (Operand.const (Value.int IntKind.i64 0)) 3, none⟩])
  (.cond (Operand.tmp 20) (.reg [⟨some 21, Op.makeInterface 9 (Operand.const (Value.string { data := #[108, 101, 110, 32, 111, 117, 116, 32, 111, 102, 32, 114, 97, 110, 103, 101] })), none⟩,
    ⟨none, Op.panic (Operand.tmp 21), none⟩])
  .skip)))))
  (.reg [⟨some 22, Op.binOp BinOp.add 3 (Operand.tmp 11) (Operand.const (Value.int IntKind.i64 1)) 3, none⟩,
    ⟨some 11, Op.move (Operand.tmp 22), none⟩]))))
noncomputable def L10_b1 : LC := (.seq (.reg [⟨some 28, Op.binOp BinOp.lss 3 (Operand.tmp 27) (Operand.tmp 26) 3, none⟩])
  (.seq (.cond (Operand.tmp 28) .skip
  (.exit 2))
  (.seq (.block 3 (.seq (.reg [⟨some 29, Op.indexAddr 24 (Operand.tmp 25) (Operand.tmp 27), none⟩,
    ⟨some 30, Op.load 22 (Operand.tmp 29), none⟩,
    ⟨some 8, Op.assign (Operand.tmp 30), none⟩])
  (.reg [⟨some 31, Op.move (Operand.tmp 6), none⟩,
    ⟨some 32, Op.move (Operand.tmp 8), none⟩,
    ⟨some 33, Op.call { callee := Callee.builtin Builtin.append, args := #[Operand.tmp 31, Operand.tmp 32], argTypes := #[22, 22] }, none⟩,
    ⟨some 6, Op.assign (Operand.tmp 33), none⟩])))
  (.reg [⟨some 34, Op.binOp BinOp.add 3 (Operand.tmp 27) (Operand.const (Value.int IntKind.i64 1)) 3, none⟩,
    ⟨some 27, Op.move (Operand.tmp 34), none⟩]))))
noncomputable def L10 : LC := (.seq (.reg [⟨some 2, Op.assign (Operand.const (Value.slice none 0 0)), none⟩])
  (.seq (.reg [⟨some 3, Op.assign (Operand.const (Value.int IntKind.i64 0)), none⟩])
  (.seq (.seq (.reg [⟨some 9, Op.move (Operand.tmp 0), none⟩,
    ⟨some 10, Op.call { callee := Callee.builtin Builtin.len, args := #[Operand.tmp 9], argTypes := #[24] }, none⟩,
    ⟨some 11, Op.move (Operand.const (Value.int IntKind.i64 0)), none⟩])
  (.block 0 (.loop L10_b0)))
  (.seq (.reg [⟨some 23, Op.move (Operand.tmp 3), none⟩,
    ⟨some 24, Op.call { callee := Callee.value (Operand.func 17), args := #[Operand.const (Value.slice none 0 0), Operand.tmp 23], argTypes := #[22, 3] }, none⟩,
    ⟨some 6, Op.assign (Operand.tmp 24), none⟩])
  (.seq (.seq (.reg [⟨some 25, Op.move (Operand.tmp 0), none⟩,
    ⟨some 26, Op.call { callee := Callee.builtin Builtin.len, args := #[Operand.tmp 25], argTypes := #[24] }, none⟩,
    ⟨some 27, Op.move (Operand.const (Value.int IntKind.i64 0)), none⟩])
  (.block 2 (.loop L10_b1)))
  (.seq (.reg [⟨some 35, Op.move (Operand.tmp 6), none⟩,
    ⟨some 2, Op.assign (Operand.tmp 35), none⟩])
  .ret))))))
theorem low10 : Tryz.f10.body.bind low = some L10 := by kernel_rfl
theorem callm10 {k : Nat} {args : List AV} {H : List AO} {R : AV → List AO → Prop} (h : MX Tryz.prog k L10 (endM Tryz.prog k [ResultVar.tmp 2] R) (args ++ List.replicate (36 - args.length) (.v undef)) H) : AFn Tryz.prog 10 k args H R :=
  AFn_of_MW Tryz.func10 low10 (by decide) rfl rfl (MX_ok h)
theorem callp10 {args : List AV} {r : AV} (h : MX Tryz.prog 0 L10 (endM Tryz.prog 0 [ResultVar.tmp 2] (fun v Ho => v = r ∧ Ho = [])) (args ++ List.replicate (36 - args.length) (.v undef)) []) : APure Tryz.prog 10 args r := APure_of (callm10 h)
noncomputable def L16 : LC := (.seq (.reg [⟨some 2, Op.box 22 (Operand.tmp 0), none⟩,
    ⟨some 3, Op.box 3 (Operand.tmp 1), none⟩,
    ⟨some 4, Op.assign (Operand.const Value.nilFunc), none⟩])
  (.seq (.seq (.reg [⟨some 5, Op.load 3 (Operand.tmp 3), none⟩,
    ⟨some 6, Op.binOp BinOp.lss 3 (Operand.tmp 5) (Operand.const (Value.int IntKind.i64 1)) 3, none⟩])
  (.cond (Operand.tmp 6) (.reg [⟨some 7, Op.makeInterface 9 (Operand.const (Value.string { data := #[99, 97, 110, 110, 111, 116, 32, 98, 101, 32, 108, 101, 115, 115, 32, 116, 104, 97, 110, 32, 49] })), none⟩,
    ⟨none, Op.panic (Operand.tmp 7), none⟩])
  .skip))
  (.seq (.reg [⟨some 8, Op.makeFunc (Fn.func 36) #[] #[Operand.tmp 2, Operand.tmp 3], none⟩,
    ⟨some 4, Op.assign (Operand.tmp 8), none⟩])
  .ret)))
theorem low16 : Tryz.f16.body.bind low = some L16 := by kernel_rfl
theorem callm16 {k : Nat} {args : List AV} {H : List AO} {R : AV → List AO → Prop} (h : MX Tryz.prog k L16 (endM Tryz.prog k [ResultVar.tmp 4] R) (args ++ List.replicate (9 - args.length) (.v undef)) H) : AFn Tryz.prog 16 k args H R :=
  AFn_of_MW Tryz.func16 low16 (by decide) rfl rfl (MX_ok h)
noncomputable def L17 : LC := (.seq (.reg [⟨some 4, Op.assign (Operand.const (Value.slice none 0 0)), none⟩])
  (.seq (.seq (.reg [⟨some 5, Op.move (Operand.tmp 1), none⟩,
    ⟨some 6, Op.binOp BinOp.lss 3 (Operand.tmp 5) (Operand.const (Value.int IntKind.i64 0)) 3, none⟩])
  (.cond (Operand.tmp 6) (.reg [⟨some 7, Op.makeInterface 9 (Operand.const (Value.string { data := #[99, 97, 110, 110, 111, 116, 32, 98, 101, 32, 110, 101, 103, 97, 116, 105, 118, 101] })), none⟩,
    ⟨none, Op.panic (Operand.tmp 7), none⟩])
  .skip))
  (.seq (.seq (.reg [⟨some 8, Op.move (Operand.tmp 1), none⟩,
    ⟨some 9, Op.move (Operand.tmp 0), none⟩,
    ⟨some 10, Op.call { callee := Callee.builtin Builtin.cap, args := #[Operand.tmp 9], argTypes := #[22] }, none⟩,
    ⟨some 11, Op.move (Operand.tmp 0), none⟩,
    ⟨some 12, Op.call { callee := Callee.builtin Builtin.len, args := #[Operand.tmp 11], argTypes := #[22] }, none⟩,
    ⟨some 13, Op.binOp BinOp.sub 3 (Operand.tmp 10) (Operand.tmp 12) 3, none⟩,
    ⟨some 14, Op.binOp BinOp.sub 3 (Operand.tmp 8) (Operand.tmp 13) 3, none⟩,
    ⟨some 1, Op.assign (Operand.tmp 14), none⟩])
  (.seq (.reg [⟨some 15, Op.move (Operand.tmp 1), none⟩,
    ⟨some 16, Op.binOp BinOp.gtr 3 (Operand.tmp 15) (Operand.const (Value.int IntKind.i64 0)) 3, none⟩])
  (.cond (Operand.tmp 16) (.reg [⟨some 17, Op.move (Operand.tmp 0), none⟩,
    ⟨some 18, Op.move (Operand.tmp 0), none⟩,
    ⟨some 19, Op.call { callee := Callee.builtin Builtin.cap, args := #[Operand.tmp 18], argTypes := #[22] }, none⟩,
    ⟨some 20, Op.slice 22 (Operand.tmp 17) none (some (Operand.tmp 19)) none, none⟩,
    ⟨some 21, Op.move (Operand.tmp 1), none⟩,
    ⟨some 22, Op.call { callee := Callee.builtin Builtin.append, args := #[Operand.tmp 20, Operand.tmp 21], argTypes := #[22, 3] }, none⟩,
    ⟨some 23, Op.move (Operand.tmp 0), none⟩,
    ⟨some 24, Op.call { callee := Callee.builtin Builtin.len, args := #[Operand.tmp 23], argTypes := #[22] }, none⟩,
    ⟨some 25, Op.slice 22 (Operand.tmp 22) none (some (Operand.tmp 24)) none, none⟩,
    ⟨some 0, Op.assign (Operand.tmp 25), none⟩])
  .skip)))
  (.seq (.reg [⟨some 26, Op.move (Operand.tmp 0), none⟩,
    ⟨some 4, Op.assign (Operand.tmp 26), none⟩])
  .ret))))
theorem low17 : Tryz.f17.body.bind low = some L17 := by kernel_rfl
noncomputable def d36_3 : Array Oper := drawOps Tryz.f36 3
def l36_3 : List LOp := [⟨some 13, Op.load 3 (Operand.tmp 2), none⟩,
    ⟨some 14, Op.load 22 (Operand.tmp 1), none⟩,
    ⟨some 15, Op.move (Operand.tmp 4), none⟩,
    ⟨some 16, Op.slice 22 (Operand.tmp 14) (some (Operand.tmp 15)) none none, none⟩,
    ⟨some 17, Op.call { callee := Callee.builtin Builtin.len, args := #[Operand.tmp 16], argTypes := #[22] }, none⟩,
    ⟨some 18, Op.call { callee := Callee.builtin Builtin.min, args := #[Operand.tmp 13, Operand.tmp 17], argTypes := #[3, 3] }, none⟩,
    ⟨some 5, Op.assign (Operand.tmp 18), none⟩]
theorem dl36_3 : lowOps d36_3 d36_3.toList = some l36_3 := by kernel_rfl
theorem dx36_3 : lexOK d36_3.toList = true := by kernel_rfl
end Go.Proofs.YteoeioodocjbiaaGreatDoor
