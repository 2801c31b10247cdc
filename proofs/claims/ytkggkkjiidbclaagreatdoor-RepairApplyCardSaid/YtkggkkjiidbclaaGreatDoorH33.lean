/- Part 33 of the texts that lead to repairApplyCard_holds. No condition. -/
import Derived.Test.YtkggkkjiidbclaaGreatDoorProg
import Derived.KernelRfl
import Derived.Test.YtkggkkjiidbclaaGreatDoorH31
import Derived.Test.YtkggkkjiidbclaaGreatDoorH32
set_option linter.unusedSimpArgs false
set_option linter.unusedVariables false
set_option linter.unnecessarySimpa false
namespace Go.Proofs
open Go Go.Abs
theorem fnAt {P : Program} {f : FuncId} {c : Code} {nt : Nat} {rs : List ResultVar} (fn : Func) (h1 : P.funcs[f]? = some fn) (h2 : fn.body = some c) (h3 : (fn.name == "runtime.NumGoroutine") = false) (h4 : fn.ntmps = nt) (h5 : fn.results.toList = rs) : FnAt P f c nt rs := ⟨fn, h1, h2, h3, h4, h5⟩
theorem x182 : Tryz.prog.funcs[182]? = some Tryz.f182 := by kernel_rfl
theorem x183 : Tryz.prog.funcs[183]? = some Tryz.f183 := by kernel_rfl
theorem x184 : Tryz.prog.funcs[184]? = some Tryz.f184 := by kernel_rfl
theorem x185 : Tryz.prog.funcs[185]? = some Tryz.f185 := by kernel_rfl
theorem x250 : Tryz.prog.funcs[250]? = some Tryz.f250 := by kernel_rfl
theorem x308 : Tryz.prog.funcs[308]? = some Tryz.f308 := by kernel_rfl
theorem x367 : Tryz.prog.funcs[367]? = some Tryz.f367 := by kernel_rfl
theorem x215 : Tryz.prog.funcs[215]? = some Tryz.f215 := by kernel_rfl
theorem x223 : Tryz.prog.funcs[223]? = some Tryz.f223 := by kernel_rfl
theorem wsC : WsCode Tryz.prog 182 250 322 320 9 0 0 := ⟨_, _, _, _, _, _, _, _, _, fnAt Tryz.f182 x182 rfl (by kernel_rfl) rfl rfl, rfl, rfl, rfl, rfl⟩
theorem wbC : WbCode Tryz.prog 184 250 322 320 := ⟨_, _, _, _, _, _, _, _, _, fnAt Tryz.f184 x184 rfl (by kernel_rfl) rfl rfl, rfl, rfl, rfl, rfl⟩
theorem sgC : SgCode Tryz.prog 185 322 320 393 3 := ⟨_, _, _, _, fnAt Tryz.f185 x185 rfl (by kernel_rfl) rfl rfl, rfl, by kernel_rfl, by kernel_rfl, by kernel_rfl⟩
theorem ckC : CkCode Tryz.prog 250 308 322 319 447 0 := ⟨_, _, _, _, _, _, _, _, fnAt Tryz.f250 x250 rfl (by kernel_rfl) rfl rfl, rfl, rfl, rfl⟩
theorem ti5 : ti Tryz.prog 5 = some ⟨.int .u8, 1, 1, [.int .u8 0]⟩ := by kernel_rfl
theorem ti9 : ti Tryz.prog 9 = some ⟨.string, 1, 16, [.string ⟨#[]⟩]⟩ := by kernel_rfl
theorem ti319 : ti Tryz.prog 319 = some ⟨.pointer 322, 1, 8, [.pointer none]⟩ := by kernel_rfl
theorem ti320 : ti Tryz.prog 320 = some ⟨.slice 5, 1, 24, [.slice none 0 0]⟩ := by kernel_rfl
theorem ti322 : ti Tryz.prog 322 = some ⟨.struct #[⟨ "addr", 319, 0, false, "", "strings", 0⟩, ⟨ "buf", 320, 1, false, "", "strings", 8⟩], 2, 32, [.pointer none, .slice none 0 0]⟩ := by kernel_rfl
set_option maxRecDepth 100000 in
noncomputable def bTy : BTy Tryz.prog 322 320 5 where
  fs := #[⟨ "addr", 319, 0, false, "", "strings", 0⟩, ⟨ "buf", 320, 1, false, "", "strings", 8⟩]
  fd := ⟨ "buf", 320, 1, false, "", "strings", 8⟩
  te := ⟨.int .u8, 1, 1, [.int .u8 0]⟩
  b1 := 2
  b2 := 32
  z := [.pointer none, .slice none 0 0]
  s1 := 24
  z2 := [.slice none 0 0]
  hb := ti322
  hf := rfl
  ht := rfl
  ho := rfl
  hs := ti320
  he := ti5
  h1 := rfl
  h2 := rfl
  hn := by
    intro h
    have h : (5 : Nat) = 322 := h
    omega
set_option maxRecDepth 100000 in
theorem ccC : CcOK Tryz.prog 322 250 := by
  obtain ⟨j, hj, hj0⟩ : ∃ j, Tryz.prog.info? 322 = some j ∧ j.size ≠ 0 := by
    obtain ⟨j, h1, h2⟩ := Option.map_eq_some_iff.1 (show (Tryz.prog.info? 322).map (·.size) = some 2 by kernel_rfl)
    exact ⟨j, h1, by omega⟩
  exact ck_ok ckC (show ti Tryz.prog bty = _ from ti322) rfl rfl rfl ti319 (by kernel_rfl) (by kernel_rfl) hj hj0 (by kernel_rfl) x308 (by kernel_rfl) (by kernel_rfl) (by kernel_rfl) (by kernel_rfl)
theorem mixP : Tryz.prog.follows .mixedOrders = true := by kernel_rfl
theorem nmP : namesOK Tryz.prog = true := by kernel_rfl
def bwT : BWT
  | 215 => some (83, 196)
  | 223 => some (86, 22)
  | _ => none
theorem bw215 : BwFn Tryz.prog 215 83 196 := ⟨Tryz.f215, _, x215, rfl, ⟨⟨_, _, _, _, _, _, _, _, _, _, _, _, _, _, _, _, rfl, rfl, rfl, rfl, rfl, ⟨_, rfl⟩, rfl, rfl, rfl, rfl⟩⟩, rfl, rfl, by kernel_rfl⟩
theorem bw223 : BwFn Tryz.prog 223 86 22 := ⟨Tryz.f223, _, x223, rfl, ⟨⟨_, _, _, _, _, _, _, _, _, _, _, _, _, _, _, _, rfl, rfl, rfl, rfl, rfl, ⟨_, rfl⟩, rfl, rfl, rfl, rfl⟩⟩, rfl, rfl, by kernel_rfl⟩
theorem bwP : BWok Tryz.prog bwT := fun nf tS tE h => by
  unfold bwT at h
  split at h
  · cases h; exact bw215
  · cases h; exact bw223
  · cases h
theorem en183 : ∀ (args : Array Value) (w : World), (callFunc 183 args).run Tryz.prog w = .ok (.enter 183 args) w := fun args w => by
  have hb : Tryz.f183.body.isSome = true := by kernel_rfl
  obtain ⟨b, hb⟩ := Option.isSome_iff_exists.1 hb
  have hn : (Tryz.f183.name == "runtime.NumGoroutine") = false := by kernel_rfl
  simp [callFunc, x183, hb]
  intro hh
  simp [hh] at hn
noncomputable def kT : List (FuncId × (List AV → HP → OR2)) := [(182, kWs 322 5), (184, kWb 322 5), (185, kSg 322 5), (183, kIt), (367, kIx)]
set_option maxRecDepth 100000 in
theorem kTok : ∀ p ∈ kT, KFok Tryz.prog p.1 p.2 := by
  intro p hp
  simp only [kT, List.mem_cons, List.not_mem_nil, or_false] at hp
  rcases hp with rfl | rfl | rfl | rfl | rfl
  · exact kWs_ok bTy ⟨_, _, _, ti9⟩ wsC ccC
  · exact kWb_ok bTy rfl wbC ccC
  · exact fun args h v h' hk e => sg_ok bTy mixP (by kernel_rfl) (by kernel_rfl) sgC hk e
  · exact fun args h v h' hk e => it_ok (g := 0) (vs := (List.range 20).map fun i => Value.int .u64 ((10 ^ i : Nat) : Int)) (by kernel_rfl) (by simp [glo]) (by simp [Lib.pow10Tab]) en183 (fun n h0 h1 w ht => Tryz.strconv_Itoa n h0 h1 w ht) hk e
  · exact fun args h v h' hk e => kIx_ok x367 (by kernel_rfl) (by kernel_rfl) (by kernel_rfl) (by kernel_rfl) hk e
noncomputable def run (es : List ME) (e : ME) : Bool := runE Tryz.prog bwT kT es e
set_option maxRecDepth 100000 in
theorem go {es : List ME} (hes : Oks Tryz.prog es) {e : ME} (h : run es e = true) : MEok Tryz.prog e := goE nmP bwP kTok mixP hes h
noncomputable abbrev headQ (es : List ME) := headL Tryz.prog bwT kT es
noncomputable abbrev itsQ (es : List ME) := itsL Tryz.prog bwT kT es
noncomputable abbrev lastQ (es : List ME) := lastL Tryz.prog bwT kT es
set_option maxRecDepth 100000 in
theorem calQ {es : List ME} (hes : Oks Tryz.prog es) : CTok Tryz.prog (cal Tryz.prog bwT kT es) := cal_ok nmP bwP kTok mixP hes
set_option maxRecDepth 100000 in
theorem qCons {es : List ME} (hes : Oks Tryz.prog es) {f k n : Nat} {g g1 g2 : List AV} {h h1 h2 : HP} (a : itsQ es f k n g h g1 h1 = true) (b : ToL Tryz.prog f k g1 h1 g2 h2) : ToL Tryz.prog f k g h g2 h2 := lCons (calQ hes) mixP a b
set_option maxRecDepth 100000 in
theorem goQ {es : List ME} (hes : Oks Tryz.prog es) {e : ME} (hl : hasLoop Tryz.prog e.f = true) {g1 g2 : List AV} {h1 h2 : HP} (h0 : headQ es e g1 h1 = true) (hit : ToL Tryz.prog e.f e.i.length g1 h1 g2 h2) (hend : lastQ es e g2 h2 = true) : MEok Tryz.prog e := goL nmP (calQ hes) mixP hl h0 hit hend
end Go.Proofs
