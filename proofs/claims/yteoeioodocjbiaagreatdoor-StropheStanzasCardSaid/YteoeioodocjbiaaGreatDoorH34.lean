/- Part 34 of the texts that lead to stropheStanzasCard_holds. No condition. -/
import Derived.Test.YteoeioodocjbiaaGreatDoorProg
import Derived.KernelRfl
import Derived.Test.YteoeioodocjbiaaGreatDoorH32
import Derived.Test.YteoeioodocjbiaaGreatDoorH33
set_option linter.unusedSimpArgs false
set_option linter.unusedVariables false
set_option linter.unnecessarySimpa false
namespace Go.Proofs
open Go Go.Abs
theorem fnAt {P : Program} {f : FuncId} {c : Code} {nt : Nat} {rs : List ResultVar} (fn : Func) (h1 : P.funcs[f]? = some fn) (h2 : fn.body = some c) (h3 : (fn.name == "runtime.NumGoroutine") = false) (h4 : fn.ntmps = nt) (h5 : fn.results.toList = rs) : FnAt P f c nt rs := ⟨fn, h1, h2, h3, h4, h5⟩
theorem x234 : Tryz.prog.funcs[234]? = some Tryz.f234 := by kernel_rfl
theorem x58 : Tryz.prog.funcs[58]? = some Tryz.f58 := by kernel_rfl
theorem x235 : Tryz.prog.funcs[235]? = some Tryz.f235 := by kernel_rfl
theorem x236 : Tryz.prog.funcs[236]? = some Tryz.f236 := by kernel_rfl
theorem x276 : Tryz.prog.funcs[276]? = some Tryz.f276 := by kernel_rfl
theorem x328 : Tryz.prog.funcs[328]? = some Tryz.f328 := by kernel_rfl
theorem x151 : Tryz.prog.funcs[151]? = some Tryz.f151 := by kernel_rfl
theorem x266 : Tryz.prog.funcs[266]? = some Tryz.f266 := by kernel_rfl
theorem wsC : WsCode Tryz.prog 234 276 375 200 9 0 0 := ⟨_, _, _, _, _, _, _, _, _, fnAt Tryz.f234 x234 rfl (by kernel_rfl) rfl rfl, rfl, rfl, rfl, rfl⟩
theorem wbC : WbCode Tryz.prog 235 276 375 200 := ⟨_, _, _, _, _, _, _, _, _, fnAt Tryz.f235 x235 rfl (by kernel_rfl) rfl rfl, rfl, rfl, rfl, rfl⟩
theorem sgC : SgCode Tryz.prog 236 375 200 429 3 := ⟨_, _, _, _, fnAt Tryz.f236 x236 rfl (by kernel_rfl) rfl rfl, rfl, by kernel_rfl, by kernel_rfl, by kernel_rfl⟩
theorem ckC : CkCode Tryz.prog 276 328 375 373 479 0 := ⟨_, _, _, _, _, _, _, _, fnAt Tryz.f276 x276 rfl (by kernel_rfl) rfl rfl, rfl, rfl, rfl⟩
theorem ti5 : ti Tryz.prog 5 = some ⟨.int .u8, 1, 1, [.int .u8 0]⟩ := by kernel_rfl
theorem ti9 : ti Tryz.prog 9 = some ⟨.string, 1, 16, [.string ⟨#[]⟩]⟩ := by kernel_rfl
theorem ti373 : ti Tryz.prog 373 = some ⟨.pointer 375, 1, 8, [.pointer none]⟩ := by kernel_rfl
theorem ti200 : ti Tryz.prog 200 = some ⟨.slice 5, 1, 24, [.slice none 0 0]⟩ := by kernel_rfl
theorem ti375 : ti Tryz.prog 375 = some ⟨.struct #[⟨ "addr", 373, 0, false, "", "strings", 0⟩, ⟨ "buf", 200, 1, false, "", "strings", 8⟩], 2, 32, [.pointer none, .slice none 0 0]⟩ := by kernel_rfl
set_option maxRecDepth 100000 in
noncomputable def bTy : BTy Tryz.prog 375 200 5 where
  fs := #[⟨ "addr", 373, 0, false, "", "strings", 0⟩, ⟨ "buf", 200, 1, false, "", "strings", 8⟩]
  fd := ⟨ "buf", 200, 1, false, "", "strings", 8⟩
  te := ⟨.int .u8, 1, 1, [.int .u8 0]⟩
  b1 := 2
  b2 := 32
  z := [.pointer none, .slice none 0 0]
  s1 := 24
  z2 := [.slice none 0 0]
  hb := ti375
  hf := rfl
  ht := rfl
  ho := rfl
  hs := ti200
  he := ti5
  h1 := rfl
  h2 := rfl
  hn := by
    intro h
    have h : (5 : Nat) = 375 := h
    omega
set_option maxRecDepth 100000 in
theorem ccC : CcOK Tryz.prog 375 276 := by
  obtain ⟨j, hj, hj0⟩ : ∃ j, Tryz.prog.info? 375 = some j ∧ j.size ≠ 0 := by
    obtain ⟨j, h1, h2⟩ := Option.map_eq_some_iff.1 (show (Tryz.prog.info? 375).map (·.size) = some 2 by kernel_rfl)
    exact ⟨j, h1, by omega⟩
  exact ck_ok ckC (show ti Tryz.prog bty = _ from ti375) rfl rfl rfl ti373 (by kernel_rfl) (by kernel_rfl) hj hj0 (by kernel_rfl) x328 (by kernel_rfl) (by kernel_rfl) (by kernel_rfl) (by kernel_rfl)
theorem mixP : Tryz.prog.follows .mixedOrders = true := by kernel_rfl
theorem nmP : namesOK Tryz.prog = true := by kernel_rfl
def bwT : BWT
  | 266 => some (191, 231)
  | _ => none
theorem bw266 : BwFn Tryz.prog 266 191 231 := ⟨Tryz.f266, _, x266, rfl, ⟨⟨_, _, _, _, _, _, _, _, _, _, _, _, _, _, _, _, rfl, rfl, rfl, rfl, rfl, ⟨_, rfl⟩, rfl, rfl, rfl, rfl⟩⟩, rfl, rfl, by kernel_rfl⟩
theorem bwP : BWok Tryz.prog bwT := fun nf tS tE h => by
  unfold bwT at h
  split at h
  · cases h; exact bw266
  · cases h
theorem en58 : ∀ (args : Array Value) (w : World), (callFunc 58 args).run Tryz.prog w = .ok (.enter 58 args) w := fun args w => by
  have hb : Tryz.f58.body.isSome = true := by kernel_rfl
  obtain ⟨b, hb⟩ := Option.isSome_iff_exists.1 hb
  have hn : (Tryz.f58.name == "runtime.NumGoroutine") = false := by kernel_rfl
  simp [callFunc, x58, hb]
  intro hh
  simp [hh] at hn
noncomputable def kT : List (FuncId × (List AV → HP → OR2)) := [(234, kWs 375 5), (235, kWb 375 5), (236, kSg 375 5), (58, kIt), (151, kIx)]
set_option maxRecDepth 100000 in
theorem kTok : ∀ p ∈ kT, KFok Tryz.prog p.1 p.2 := by
  intro p hp
  simp only [kT, List.mem_cons, List.not_mem_nil, or_false] at hp
  rcases hp with rfl | rfl | rfl | rfl | rfl
  · exact kWs_ok bTy ⟨_, _, _, ti9⟩ wsC ccC
  · exact kWb_ok bTy rfl wbC ccC
  · exact fun args h v h' hk e => sg_ok bTy mixP (by kernel_rfl) (by kernel_rfl) sgC hk e
  · exact fun args h v h' hk e => it_ok (g := 1) (vs := (List.range 20).map fun i => Value.int .u64 ((10 ^ i : Nat) : Int)) (by kernel_rfl) (by simp [glo]) (by simp [Lib.pow10Tab]) en58 (fun n h0 h1 w ht => Tryz.strconv_Itoa n h0 h1 w ht) hk e
  · exact fun args h v h' hk e => kIx_ok x151 (by kernel_rfl) (by kernel_rfl) (by kernel_rfl) (by kernel_rfl) hk e
noncomputable def run (es : List ME) (e : ME) : Bool := runE Tryz.prog bwT kT es e
set_option maxRecDepth 100000 in
theorem go {es : List ME} (hes : Oks Tryz.prog es) {e : ME} (h : run es e = true) : MEok Tryz.prog e := goE nmP bwP kTok mixP hes h
noncomputable abbrev headQ (es : List ME) := headL Tryz.prog bwT kT es
noncomputable abbrev itsQ (es : List ME) := itsL Tryz.prog bwT kT es
noncomputable abbrev lastQ (es : List ME) := lastL Tryz.prog bwT kT es
set_option maxRecDepth 100000 in
theorem calQ {es : List ME} (hes : Oks Tryz.prog es) : CTok Tryz.prog (cal Tryz.prog bwT kT es) := cal_ok nmP bwP kTok mixP hes
set_option maxRecDepth 100000 in
theorem qCons {es : List ME} (hes : Oks Tryz.prog es) {f k n : Nat} {g g1 g2 : List AV} {h h1 h2 : HP} (a : itsQ es f k n g h g1 h1 = true) (b : ToL Tryz.prog f k g1 h1 g2 h2) : ToL Tryz.prog f k g h g2 h2 := lCons (calQ hes) mixP a b
set_option maxRecDepth 100000 in
theorem goQ {es : List ME} (hes : Oks Tryz.prog es) {e : ME} (hl : hasLoop Tryz.prog e.f = true) {g1 g2 : List AV} {h1 h2 : HP} (h0 : headQ es e g1 h1 = true) (hit : ToL Tryz.prog e.f e.i.length g1 h1 g2 h2) (hend : lastQ es e g2 h2 = true) : MEok Tryz.prog e := goL nmP (calQ hes) mixP hl h0 hit hend
noncomputable abbrev roomQ (es : List ME) := roomE Tryz.prog bwT kT es
set_option maxRecDepth 100000 in
theorem goRQ {es : List ME} (hes : Oks Tryz.prog es) {e : ME} (t id : Nat) (hat : roomAt e t id = true) (hf : (Tryz.prog.funcs[e.f]?).isSome = true) (hbd : ((Tryz.prog.funcs[e.f]?).bind (·.body)).isSome = true) (h1 : roomQ es e id none = true) (h2 : roomQ es e id (some 1) = true) : MEok Tryz.prog e := goR nmP (calQ hes) mixP t id hat hf hbd h1 h2
end Go.Proofs
