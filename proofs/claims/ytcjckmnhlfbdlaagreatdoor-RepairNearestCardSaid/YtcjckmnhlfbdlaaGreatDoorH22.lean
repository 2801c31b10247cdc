/- Part 22 of the texts that lead to repairNearestCard_holds. No condition. -/
import Derived.Test.YtcjckmnhlfbdlaaGreatDoorProg
import Derived.KernelRfl
import Derived.Test.YtcjckmnhlfbdlaaGreatDoorH20
import Derived.Test.YtcjckmnhlfbdlaaGreatDoorH21
set_option linter.all false
namespace Go.Proofs
open Go Go.Abs
theorem fnAt {P : Program} {f : FuncId} {c : Code} {nt : Nat} {rs : List ResultVar} (fn : Func) (h1 : P.funcs[f]? = some fn) (h2 : fn.body = some c) (h3 : (fn.name == "runtime.NumGoroutine") = false) (h4 : fn.ntmps = nt) (h5 : fn.results.toList = rs) : FnAt P f c nt rs := ⟨fn, h1, h2, h3, h4, h5⟩
theorem x199 : Tryz.prog.funcs[199]? = some Tryz.f199 := by kernel_rfl
theorem x200 : Tryz.prog.funcs[200]? = some Tryz.f200 := by kernel_rfl
theorem x201 : Tryz.prog.funcs[201]? = some Tryz.f201 := by kernel_rfl
theorem x202 : Tryz.prog.funcs[202]? = some Tryz.f202 := by kernel_rfl
theorem x267 : Tryz.prog.funcs[267]? = some Tryz.f267 := by kernel_rfl
theorem x325 : Tryz.prog.funcs[325]? = some Tryz.f325 := by kernel_rfl
theorem x384 : Tryz.prog.funcs[384]? = some Tryz.f384 := by kernel_rfl
theorem x232 : Tryz.prog.funcs[232]? = some Tryz.f232 := by kernel_rfl
theorem x240 : Tryz.prog.funcs[240]? = some Tryz.f240 := by kernel_rfl
theorem wsC : WsCode Tryz.prog 199 267 331 329 9 0 0 := ⟨_, _, _, _, _, _, _, _, _, fnAt Tryz.f199 x199 rfl (by kernel_rfl) rfl rfl, rfl, rfl, rfl, rfl⟩
theorem wbC : WbCode Tryz.prog 201 267 331 329 := ⟨_, _, _, _, _, _, _, _, _, fnAt Tryz.f201 x201 rfl (by kernel_rfl) rfl rfl, rfl, rfl, rfl, rfl⟩
theorem sgC : SgCode Tryz.prog 202 331 329 402 3 := ⟨_, _, _, _, fnAt Tryz.f202 x202 rfl (by kernel_rfl) rfl rfl, rfl, by kernel_rfl, by kernel_rfl, by kernel_rfl⟩
theorem ckC : CkCode Tryz.prog 267 325 331 328 456 0 := ⟨_, _, _, _, _, _, _, _, fnAt Tryz.f267 x267 rfl (by kernel_rfl) rfl rfl, rfl, rfl, rfl⟩
theorem ti5 : ti Tryz.prog 5 = some ⟨.int .u8, 1, 1, [.int .u8 0]⟩ := by kernel_rfl
theorem ti9 : ti Tryz.prog 9 = some ⟨.string, 1, 16, [.string ⟨#[]⟩]⟩ := by kernel_rfl
theorem ti328 : ti Tryz.prog 328 = some ⟨.pointer 331, 1, 8, [.pointer none]⟩ := by kernel_rfl
theorem ti329 : ti Tryz.prog 329 = some ⟨.slice 5, 1, 24, [.slice none 0 0]⟩ := by kernel_rfl
theorem ti331 : ti Tryz.prog 331 = some ⟨.struct #[⟨ "addr", 328, 0, false, "", "strings", 0⟩, ⟨ "buf", 329, 1, false, "", "strings", 8⟩], 2, 32, [.pointer none, .slice none 0 0]⟩ := by kernel_rfl
set_option maxRecDepth 100000 in
noncomputable def bTy : BTy Tryz.prog 331 329 5 where
 fs := #[⟨ "addr", 328, 0, false, "", "strings", 0⟩, ⟨ "buf", 329, 1, false, "", "strings", 8⟩]
 fd := ⟨ "buf", 329, 1, false, "", "strings", 8⟩
 te := ⟨.int .u8, 1, 1, [.int .u8 0]⟩
 b1 := 2
 b2 := 32
 z := [.pointer none, .slice none 0 0]
 s1 := 24
 z2 := [.slice none 0 0]
 hb := ti331
 hf := rfl
 ht := rfl
 ho := rfl
 hs := ti329
 he := ti5
 h1 := rfl
 h2 := rfl
 hn := by
  intro h
  have h : (5 : Nat) = 331 := h
  omega
set_option maxRecDepth 100000 in
theorem ccC : CcOK Tryz.prog 331 267 := by
 obtain ⟨j, hj, hj0⟩ : ∃ j, Tryz.prog.info? 331 = some j ∧ j.size ≠ 0 := by
  obtain ⟨j, h1, h2⟩ := Option.map_eq_some_iff.1 (show (Tryz.prog.info? 331).map (·.size) = some 2 by kernel_rfl)
  exact ⟨j, h1, by omega⟩
 exact ck_ok ckC (show ti Tryz.prog bty = _ from ti331) rfl rfl rfl ti328 (by kernel_rfl) (by kernel_rfl) hj hj0 (by kernel_rfl) x325 (by kernel_rfl) (by kernel_rfl) (by kernel_rfl) (by kernel_rfl)
theorem mixP : Tryz.prog.follows .mixedOrders = true := by kernel_rfl
theorem nmP : namesOK Tryz.prog = true := by kernel_rfl
def bwT : BWT
 | 232 => some (97, 209)
 | 240 => some (22, 26)
 | _ => none
theorem bw232 : BwFn Tryz.prog 232 97 209 := ⟨Tryz.f232, _, x232, rfl, ⟨⟨_, _, _, _, _, _, _, _, _, _, _, _, _, _, _, _, rfl, rfl, rfl, rfl, rfl, ⟨_, rfl⟩, rfl, rfl, rfl, rfl⟩⟩, rfl, rfl, by kernel_rfl⟩
theorem bw240 : BwFn Tryz.prog 240 22 26 := ⟨Tryz.f240, _, x240, rfl, ⟨⟨_, _, _, _, _, _, _, _, _, _, _, _, _, _, _, _, rfl, rfl, rfl, rfl, rfl, ⟨_, rfl⟩, rfl, rfl, rfl, rfl⟩⟩, rfl, rfl, by kernel_rfl⟩
theorem bwP : BWok Tryz.prog bwT := fun nf tS tE h => by
 unfold bwT at h
 split at h
 ·cases h; exact bw232
 ·cases h; exact bw240
 ·cases h
theorem en200 : ∀ (args : Array Value) (w : World), (callFunc 200 args).run Tryz.prog w = .ok (.enter 200 args) w := fun args w => by
 have hb : Tryz.f200.body.isSome = true := by kernel_rfl
 obtain ⟨b, hb⟩ := Option.isSome_iff_exists.1 hb
 have hn : (Tryz.f200.name == "runtime.NumGoroutine") = false := by kernel_rfl
 simp [callFunc, x200, hb]
 intro hh
 simp [hh] at hn
noncomputable def kT : List (FuncId × (List AV → HP → OR2)) := [(199, kWs 331 5), (201, kWb 331 5), (202, kSg 331 5), (200, kIt), (384, kIx)]
set_option maxRecDepth 100000 in
theorem kTok : ∀ p ∈ kT, KFok Tryz.prog p.1 p.2 := by
 intro p hp
 simp only [kT, List.mem_cons, List.not_mem_nil, or_false] at hp
 rcases hp with rfl | rfl | rfl | rfl | rfl
 ·exact kWs_ok bTy ⟨_, _, _, ti9⟩ wsC ccC
 ·exact kWb_ok bTy rfl wbC ccC
 ·exact fun args h v h' hk e => sg_ok bTy mixP (by kernel_rfl) (by kernel_rfl) sgC hk e
 ·exact fun args h v h' hk e => it_ok (g := 0) (vs := (List.range 20).map fun i => Value.int .u64 ((10 ^ i : Nat) : Int)) (by kernel_rfl) (by simp [glo]) (by simp [Lib.pow10Tab]) en200 (fun n h0 h1 w ht => Tryz.strconv_Itoa n h0 h1 w ht) hk e
 ·exact fun args h v h' hk e => kIx_ok x384 (by kernel_rfl) (by kernel_rfl) (by kernel_rfl) (by kernel_rfl) hk e
noncomputable def run (es : List ME) (e : ME) : Bool := runE Tryz.prog bwT kT es e
set_option maxRecDepth 100000 in
theorem go {es : List ME} (hes : Oks Tryz.prog es) {e : ME} (h : run es e = true) : MEok Tryz.prog e := goE nmP bwP kTok mixP hes h
noncomputable abbrev headQ (es : List ME) := headL Tryz.prog bwT kT es
noncomputable abbrev itsQ (es : List ME) := itsL Tryz.prog bwT kT es
noncomputable abbrev lastQ (es : List ME) := lastL Tryz.prog bwT kT es
set_option maxRecDepth 100000 in
theorem calQ {es : List ME} (hes : Oks Tryz.prog es) : CTok Tryz.prog (cal Tryz.prog bwT kT es) := cal_ok nmP bwP kTok mixP hes
set_option maxRecDepth 100000 in
theorem qCons {es : List ME} (hes : Oks Tryz.prog es) {f k n : Nat} {g g1 g2 : List AV} {h h1 h2 : HP} (a : itsQ es f k n g h g1 h1 = true) (b : ToL Tryz.prog f k g1 h1 g2 h2) : ToL Tryz.prog f k g h g2 h2 := lCons (calQ hes) mixP a b
set_option maxRecDepth 100000 in
theorem goQ {es : List ME} (hes : Oks Tryz.prog es) {e : ME} (hl : hasLoop Tryz.prog e.f = true) {g1 g2 : List AV} {h1 h2 : HP} (h0 : headQ es e g1 h1 = true) (hit : ToL Tryz.prog e.f e.i.length g1 h1 g2 h2) (hend : lastQ es e g2 h2 = true) : MEok Tryz.prog e := goL nmP (calQ hes) mixP hl h0 hit hend
end Go.Proofs
