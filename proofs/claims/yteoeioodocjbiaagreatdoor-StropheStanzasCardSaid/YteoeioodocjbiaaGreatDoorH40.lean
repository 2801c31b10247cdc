/- Part 40 of the texts that lead to stropheStanzasCard_holds. No condition. -/
import Derived.Test.YteoeioodocjbiaaGreatDoorH35
set_option linter.unusedSimpArgs false
set_option linter.unusedVariables false
set_option linter.unnecessarySimpa false
namespace Go.Proofs
open Go Go.Abs
theorem r308 : run [] e308 = true := by kernel_rfl
theorem r317 : run [e227, e308] e317 = true := by kernel_rfl
theorem r336 : run [] e336 = true := by kernel_rfl
theorem r363 : run [] e363 = true := by kernel_rfl
theorem r367 : run [e218, e363] e367 = true := by kernel_rfl
end Go.Proofs
namespace Go.Proofs
open Go Go.Abs
theorem r487 : run [e374] e487 = true := by kernel_rfl
theorem r489 : run [e483, e487, e382, e383] e489 = true := by kernel_rfl
theorem r490 : run [] e490 = true := by kernel_rfl
theorem r494 : run [e374] e494 = true := by kernel_rfl
theorem r496 : run [e490, e494, e382, e383] e496 = true := by kernel_rfl
theorem r497 : run [] e497 = true := by kernel_rfl
theorem r501 : run [e374] e501 = true := by kernel_rfl
end Go.Proofs
namespace Go.Proofs
open Go Go.Abs
theorem r632 : run [e374] e632 = true := by kernel_rfl
theorem r634 : run [e632, e550, e383] e634 = true := by kernel_rfl
theorem r640 : run [e374] e640 = true := by kernel_rfl
theorem r642 : run [e640, e550, e383] e642 = true := by kernel_rfl
theorem r647 : run [e374] e647 = true := by kernel_rfl
theorem r649 : run [e647, e550, e383] e649 = true := by kernel_rfl
end Go.Proofs
namespace Go.Proofs
open Go Go.Abs
theorem r877 : run [] e877 = true := by kernel_rfl
theorem r894 : run [] e894 = true := by kernel_rfl
theorem r904 : run [] e904 = true := by kernel_rfl
theorem r931 : run [] e931 = true := by kernel_rfl
theorem r943 : run [] e943 = true := by kernel_rfl
theorem r972 : run [] e972 = true := by kernel_rfl
theorem r994 : run [] e994 = true := by kernel_rfl
theorem r1012 : run [] e1012 = true := by kernel_rfl
theorem r1031 : run [] e1031 = true := by kernel_rfl
end Go.Proofs
namespace Go.Proofs
open Go Go.Abs
theorem r1609 : run [] e1609 = true := by kernel_rfl
theorem r1638 : run [] e1638 = true := by kernel_rfl
theorem r1654 : run [] e1654 = true := by kernel_rfl
theorem r1684 : run [] e1684 = true := by kernel_rfl
end Go.Proofs
namespace Go.Proofs
open Go Go.Abs
theorem r2325 : run [] e2325 = true := by kernel_rfl
theorem r2368 : run [] e2368 = true := by kernel_rfl
theorem r2374 : run [] e2374 = true := by kernel_rfl
end Go.Proofs
namespace Go.Proofs
open Go Go.Abs
theorem r2704 : run [] e2704 = true := by kernel_rfl
theorem r2705 : run [e2704] e2705 = true := by kernel_rfl
theorem r2706 : run [e2705] e2706 = true := by kernel_rfl
end Go.Proofs
namespace Go.Proofs
open Go Go.Abs
theorem r3040 : run [] e3040 = true := by kernel_rfl
end Go.Proofs
namespace Go.Proofs
open Go Go.Abs
theorem r3287 : run [e3265, e3284] e3287 = true := by kernel_rfl
theorem r3288 : run [e3170, e3200, e3235, e3287] e3288 = true := by kernel_rfl
end Go.Proofs
