/- Part 12 of the texts that lead to gapFill_holds, gapSpace_holds, gapWider_holds. No condition. -/
import Derived.Test.YtimblogmflmhkaaProg
import Derived.KernelRfl
import Derived.Test.YtimblogmflmhkaaH11
set_option linter.unusedSimpArgs false
set_option linter.unusedVariables false
set_option linter.unnecessarySimpa false
namespace Go.Proofs.Ytimblogmflmhkaa
open Go Go.Abs
@[go_sem] theorem ti2 : ti Try.prog 2 = some ⟨.int .i64, 1, 8, [.int .i64 0]⟩ := by kernel_rfl
@[go_sem] theorem ti3 : ti Try.prog 3 = some ⟨.int .i64, 1, 8, [.int .i64 0]⟩ := by kernel_rfl
@[go_sem] theorem ti4 : ti Try.prog 4 = some ⟨.bool, 1, 1, [.bool false]⟩ := by kernel_rfl
@[go_sem] theorem ti5 : ti Try.prog 5 = some ⟨.int .u8, 1, 1, [.int .u8 0]⟩ := by kernel_rfl
@[go_sem] theorem ti6 : ti Try.prog 6 = some ⟨.int .u8, 1, 1, [.int .u8 0]⟩ := by kernel_rfl
@[go_sem] theorem ti7 : ti Try.prog 7 = some ⟨.struct #[⟨ "x", 2, 0, false, "", "runtime", 0⟩, ⟨ "y", 3, 1, false, "", "runtime", 8⟩, ⟨ "signed", 4, 2, false, "", "runtime", 16⟩, ⟨ "code", 6, 3, false, "", "runtime", 17⟩], 4, 24, [.int .i64 0, .int .i64 0, .bool false, .int .u8 0]⟩ := by kernel_rfl
@[go_sem] theorem ti8 : ti Try.prog 8 = some ⟨.struct #[⟨ "x", 2, 0, false, "", "runtime", 0⟩, ⟨ "y", 3, 1, false, "", "runtime", 8⟩, ⟨ "signed", 4, 2, false, "", "runtime", 16⟩, ⟨ "code", 6, 3, false, "", "runtime", 17⟩], 4, 24, [.int .i64 0, .int .i64 0, .bool false, .int .u8 0]⟩ := by kernel_rfl
@[go_sem] theorem ti9 : ti Try.prog 9 = some ⟨.string, 1, 16, [.string ⟨#[]⟩]⟩ := by kernel_rfl
@[go_sem] theorem ti10 : ti Try.prog 10 = some ⟨.string, 1, 16, [.string ⟨#[]⟩]⟩ := by kernel_rfl
@[go_sem] theorem ti11 : ti Try.prog 11 = some ⟨.string, 1, 16, [.string ⟨#[]⟩]⟩ := by kernel_rfl
@[go_sem] theorem ti12 : ti Try.prog 12 = some ⟨.int .u64, 1, 8, [.int .u64 0]⟩ := by kernel_rfl
@[go_sem] theorem ti13 : ti Try.prog 13 = some ⟨.struct #[⟨ "msg", 9, 0, false, "", "runtime", 0⟩, ⟨ "addr", 12, 1, false, "", "runtime", 16⟩], 2, 24, [.string ⟨#[]⟩, .int .u64 0]⟩ := by kernel_rfl
@[go_sem] theorem ti14 : ti Try.prog 14 = some ⟨.struct #[⟨ "msg", 9, 0, false, "", "runtime", 0⟩, ⟨ "addr", 12, 1, false, "", "runtime", 16⟩], 2, 24, [.string ⟨#[]⟩, .int .u64 0]⟩ := by kernel_rfl
@[go_sem] theorem ti15 : ti Try.prog 15 = some ⟨.pointer 108, 1, 8, [.pointer none]⟩ := by kernel_rfl
@[go_sem] theorem ti16 : ti Try.prog 16 = some ⟨.pointer 111, 1, 8, [.pointer none]⟩ := by kernel_rfl
@[go_sem] theorem ti17 : ti Try.prog 17 = some ⟨.pointer 119, 1, 8, [.pointer none]⟩ := by kernel_rfl
@[go_sem] theorem ti18 : ti Try.prog 18 = some ⟨.struct #[⟨ "typ", 17, 0, false, "", "internal/runtime/maps", 0⟩], 1, 8, [.pointer none]⟩ := by kernel_rfl
@[go_sem] theorem ti19 : ti Try.prog 19 = some ⟨.struct #[⟨ "typ", 17, 0, false, "", "internal/runtime/maps", 0⟩], 1, 8, [.pointer none]⟩ := by kernel_rfl
@[go_sem] theorem ti21 : ti Try.prog 21 = some ⟨.int .i32, 1, 4, [.int .i32 0]⟩ := by kernel_rfl
@[go_sem] theorem ti22 : ti Try.prog 22 = some ⟨.struct #[⟨ "Before", 9, 0, false, "", "", 0⟩, ⟨ "After", 9, 1, false, "", "", 16⟩, ⟨ "Least", 3, 2, false, "", "", 32⟩, ⟨ "Most", 3, 3, false, "", "", 40⟩, ⟨ "Mask", 9, 4, false, "", "", 48⟩], 5, 64, [.string ⟨#[]⟩, .string ⟨#[]⟩, .int .i64 0, .int .i64 0, .string ⟨#[]⟩]⟩ := by kernel_rfl
@[go_sem] theorem ti23 : ti Try.prog 23 = some ⟨.struct #[⟨ "Before", 9, 0, false, "", "", 0⟩, ⟨ "After", 9, 1, false, "", "", 16⟩, ⟨ "Least", 3, 2, false, "", "", 32⟩, ⟨ "Most", 3, 3, false, "", "", 40⟩, ⟨ "Mask", 9, 4, false, "", "", 48⟩], 5, 64, [.string ⟨#[]⟩, .string ⟨#[]⟩, .int .i64 0, .int .i64 0, .string ⟨#[]⟩]⟩ := by kernel_rfl
@[go_sem] theorem ti24 : ti Try.prog 24 = some ⟨.slice 9, 1, 24, [.slice none 0 0]⟩ := by kernel_rfl
@[go_sem] theorem ti25 : ti Try.prog 25 = some ⟨.struct #[⟨ "Words", 24, 0, false, "", "", 0⟩], 1, 24, [.slice none 0 0]⟩ := by kernel_rfl
@[go_sem] theorem ti26 : ti Try.prog 26 = some ⟨.struct #[⟨ "Words", 24, 0, false, "", "", 0⟩], 1, 24, [.slice none 0 0]⟩ := by kernel_rfl
@[go_sem] theorem ti27 : ti Try.prog 27 = some ⟨.array 2 5, 2, 2, [.int .u8 0, .int .u8 0]⟩ := by kernel_rfl
@[go_sem] theorem ti31 : ti Try.prog 31 = some ⟨.slice 24, 1, 24, [.slice none 0 0]⟩ := by kernel_rfl
@[go_sem] theorem ti32 : ti Try.prog 32 = some ⟨.int .i64, 1, 8, [.int .i64 0]⟩ := by kernel_rfl
@[go_sem] theorem ti52 : ti Try.prog 52 = some ⟨.pointer 54, 1, 8, [.pointer none]⟩ := by kernel_rfl
@[go_sem] theorem ti53 : ti Try.prog 53 = some ⟨.struct #[⟨ "g", 23, 0, false, "", "anceps/gap", 0⟩, ⟨ "words", 24, 5, false, "", "anceps/gap", 64⟩, ⟨ "out", 31, 6, false, "", "anceps/gap", 88⟩], 7, 112, [.string ⟨#[]⟩, .string ⟨#[]⟩, .int .i64 0, .int .i64 0, .string ⟨#[]⟩, .slice none 0 0, .slice none 0 0]⟩ := by kernel_rfl
@[go_sem] theorem ti54 : ti Try.prog 54 = some ⟨.struct #[⟨ "g", 23, 0, false, "", "anceps/gap", 0⟩, ⟨ "words", 24, 5, false, "", "anceps/gap", 64⟩, ⟨ "out", 31, 6, false, "", "anceps/gap", 88⟩], 7, 112, [.string ⟨#[]⟩, .string ⟨#[]⟩, .int .i64 0, .int .i64 0, .string ⟨#[]⟩, .slice none 0 0, .slice none 0 0]⟩ := by kernel_rfl
@[go_sem] theorem ti70 : ti Try.prog 70 = some ⟨.pointer 73, 1, 8, [.pointer none]⟩ := by kernel_rfl
@[go_sem] theorem ti71 : ti Try.prog 71 = some ⟨.slice 5, 1, 24, [.slice none 0 0]⟩ := by kernel_rfl
@[go_sem] theorem ti72 : ti Try.prog 72 = some ⟨.struct #[⟨ "addr", 70, 0, false, "", "strings", 0⟩, ⟨ "buf", 71, 1, false, "", "strings", 8⟩], 2, 32, [.pointer none, .slice none 0 0]⟩ := by kernel_rfl
@[go_sem] theorem ti73 : ti Try.prog 73 = some ⟨.struct #[⟨ "addr", 70, 0, false, "", "strings", 0⟩, ⟨ "buf", 71, 1, false, "", "strings", 8⟩], 2, 32, [.pointer none, .slice none 0 0]⟩ := by kernel_rfl
@[go_sem] theorem ti81 : ti Try.prog 81 = some ⟨.slice 3, 1, 24, [.slice none 0 0]⟩ := by kernel_rfl
@[go_sem] theorem ti90 : ti Try.prog 90 = some ⟨.pointer 5, 1, 8, [.pointer none]⟩ := by kernel_rfl
@[go_sem] theorem ti97 : ti Try.prog 97 = some ⟨.int .u64, 1, 8, [.int .u64 0]⟩ := by kernel_rfl
@[go_sem] theorem ti99 : ti Try.prog 99 = some ⟨.slice 106, 1, 24, [.slice none 0 0]⟩ := by kernel_rfl
@[go_sem] theorem ti102 : ti Try.prog 102 = some ⟨.int .u32, 1, 4, [.int .u32 0]⟩ := by kernel_rfl
@[go_sem] theorem ti105 : ti Try.prog 105 = some ⟨.struct #[⟨ "From", 3, 0, false, "", "", 0⟩, ⟨ "To", 3, 1, false, "", "", 8⟩], 2, 16, [.int .i64 0, .int .i64 0]⟩ := by kernel_rfl
@[go_sem] theorem ti106 : ti Try.prog 106 = some ⟨.struct #[⟨ "From", 3, 0, false, "", "", 0⟩, ⟨ "To", 3, 1, false, "", "", 8⟩], 2, 16, [.int .i64 0, .int .i64 0]⟩ := by kernel_rfl
@[go_sem] theorem ti107 : ti Try.prog 107 = some ⟨.struct #[⟨ "_interface", 17, 0, false, "", "runtime", 0⟩, ⟨ "concrete", 17, 1, false, "", "runtime", 8⟩, ⟨ "asserted", 17, 2, false, "", "runtime", 16⟩, ⟨ "missingMethod", 9, 3, false, "", "runtime", 24⟩], 4, 40, [.pointer none, .pointer none, .pointer none, .string ⟨#[]⟩]⟩ := by kernel_rfl
@[go_sem] theorem ti108 : ti Try.prog 108 = some ⟨.struct #[⟨ "_interface", 17, 0, false, "", "runtime", 0⟩, ⟨ "concrete", 17, 1, false, "", "runtime", 8⟩, ⟨ "asserted", 17, 2, false, "", "runtime", 16⟩, ⟨ "missingMethod", 9, 3, false, "", "runtime", 24⟩], 4, 40, [.pointer none, .pointer none, .pointer none, .string ⟨#[]⟩]⟩ := by kernel_rfl
@[go_sem] theorem ti109 : ti Try.prog 109 = some ⟨.array 0 16, 0, 0, []⟩ := by kernel_rfl
@[go_sem] theorem ti110 : ti Try.prog 110 = some ⟨.struct #[⟨ "_", 109, 0, false, "", "runtime", 0⟩], 0, 0, []⟩ := by kernel_rfl
@[go_sem] theorem ti111 : ti Try.prog 111 = some ⟨.struct #[⟨ "_", 109, 0, false, "", "runtime", 0⟩], 0, 0, []⟩ := by kernel_rfl
@[go_sem] theorem ti113 : ti Try.prog 113 = some ⟨.int .u8, 1, 1, [.int .u8 0]⟩ := by kernel_rfl
@[go_sem] theorem ti114 : ti Try.prog 114 = some ⟨.int .u8, 1, 1, [.int .u8 0]⟩ := by kernel_rfl
@[go_sem] theorem ti116 : ti Try.prog 116 = some ⟨.int .i32, 1, 4, [.int .i32 0]⟩ := by kernel_rfl
@[go_sem] theorem ti117 : ti Try.prog 117 = some ⟨.int .i32, 1, 4, [.int .i32 0]⟩ := by kernel_rfl
@[go_sem] theorem ti118 : ti Try.prog 118 = some ⟨.struct #[⟨ "Size_", 12, 0, false, "", "", 0⟩, ⟨ "PtrBytes", 12, 1, false, "", "", 8⟩, ⟨ "Hash", 102, 2, false, "", "", 16⟩, ⟨ "TFlag", 113, 3, false, "", "", 20⟩, ⟨ "Align_", 5, 4, false, "", "", 21⟩, ⟨ "FieldAlign_", 5, 5, false, "", "", 22⟩, ⟨ "Kind_", 114, 6, false, "", "", 23⟩, ⟨ "Equal", 115, 7, false, "", "", 24⟩, ⟨ "GCData", 90, 8, false, "", "", 32⟩, ⟨ "Str", 116, 9, false, "", "", 40⟩, ⟨ "PtrToThis", 117, 10, false, "", "", 44⟩], 11, 48, [.int .u64 0, .int .u64 0, .int .u32 0, .int .u8 0, .int .u8 0, .int .u8 0, .int .u8 0, .nilFunc, .pointer none, .int .i32 0, .int .i32 0]⟩ := by kernel_rfl
@[go_sem] theorem ti119 : ti Try.prog 119 = some ⟨.struct #[⟨ "Size_", 12, 0, false, "", "", 0⟩, ⟨ "PtrBytes", 12, 1, false, "", "", 8⟩, ⟨ "Hash", 102, 2, false, "", "", 16⟩, ⟨ "TFlag", 113, 3, false, "", "", 20⟩, ⟨ "Align_", 5, 4, false, "", "", 21⟩, ⟨ "FieldAlign_", 5, 5, false, "", "", 22⟩, ⟨ "Kind_", 114, 6, false, "", "", 23⟩, ⟨ "Equal", 115, 7, false, "", "", 24⟩, ⟨ "GCData", 90, 8, false, "", "", 32⟩, ⟨ "Str", 116, 9, false, "", "", 40⟩, ⟨ "PtrToThis", 117, 10, false, "", "", 44⟩], 11, 48, [.int .u64 0, .int .u64 0, .int .u32 0, .int .u8 0, .int .u8 0, .int .u8 0, .int .u8 0, .nilFunc, .pointer none, .int .i32 0, .int .i32 0]⟩ := by kernel_rfl
end Go.Proofs.Ytimblogmflmhkaa
