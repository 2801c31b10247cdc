/- Part 14 of the texts that lead to gapFill_holds, gapSpace_holds, gapWider_holds. No condition. -/
import Derived.Lib.Bytealg
import Derived.Test.YtimblogmflmhkaaH13
set_option linter.unusedSimpArgs false
set_option linter.unusedVariables false
set_option linter.unnecessarySimpa false
namespace Go.Proofs.Ytimblogmflmhkaa
open Go Go.Abs
theorem APure_ext {P : Program} {n : FuncId} {args : List Value} {y : Value} (h : ∀ w, (callFunc n args.toArray).run P w = .ok (.value y) w) : APure P n (args.map .v) (.v y) := by
  intro I m w xs hr hv
  have hx : xs = args.toArray := by
    have : ∀ (l : List Value) (ys : List Value), VRs I m w (l.map .v) ys → ys = l := by
      intro l
      induction l with
      | nil => intro ys h; simpa [VRs] using h
      | cons a l ih =>
        intro ys h
        simp only [List.map_cons, VRs, VR] at h
        obtain ⟨y, zs, rfl, rfl, h⟩ := h
        rw [ih _ h]
    have e := this args xs.toList hv
    rw [← e]
  subst hx
  unfold CallsFn
  rw [h w]
  exact ⟨.v y, [], I, m, Rf.cl (Cl.v _), by simp only [VR], hr, Ext.refl _ _ _ _⟩
def idxB (c : UInt8) : List UInt8 → Int → Int
  | [], _ => -1
  | b :: l, k => if b = c then k else idxB c l (k + 1)
theorem name73 : (Try.f73.name == "runtime.NumGoroutine") = false := by decide
theorem next73 : Extern.findNext Try.f73 = none := by kernel_rfl
theorem find73 : Extern.find Try.f73 = some Extern.BytealgIndexByte.indexByte := by kernel_rfl
theorem next60 : Extern.findNext Try.f60 = none := by kernel_rfl
theorem find60 : Extern.find Try.f60 = some Extern.BytealgCount.count := by kernel_rfl
theorem name60 : (Try.f60.name == "runtime.NumGoroutine") = false := by decide
theorem find_range (s : ByteArray) (c : UInt8) : ∀ (n k : Nat), k + n = s.size → (match (List.range' k n).find? fun i => s[i]! == c with | some i => (i : Int) | none => -1) = idxB c (s.data.toList.drop k) k := by
  intro n
  induction n with
  | zero => intro k hk; simp [List.drop_eq_nil_of_le (show s.data.toList.length ≤ k by simp; omega), idxB]
  | succ n ih =>
    intro k hk
    have hlt : k < s.size := by omega
    have hd : s.data.toList.drop k = s[k] :: s.data.toList.drop (k + 1) := by
      rw [List.drop_eq_getElem_cons (by simpa using hlt)]; rfl
    rw [List.range'_succ, List.find?_cons, hd]
    have e : s[k]! = s[k] := by simp [hlt]
    rw [e]
    by_cases hc : s[k] = c
    · simp [hc, idxB]
    · have h1 : (s[k] == c) = false := by simpa using hc
      have h2 : idxB c (s[k] :: s.data.toList.drop (k + 1)) k = idxB c (s.data.toList.drop (k + 1)) (k + 1 : Nat) := by simp [idxB, hc]
      rw [h2, ← ih (k + 1) (by omega), h1]
theorem indexByteString (s : ByteArray) (c : UInt8) : APure Try.prog 73 [.v (.string s), .v (.int .u8 c.toNat)] (.v (.int .i64 (idxB c s.data.toList 0))) := by
  refine APure_ext (args := [.string s, .int .u8 c.toNat]) fun w => ?_
  have hf := Try.func73
  have e : (callFunc 73 #[Value.string s, Value.int .u8 c.toNat]).run Try.prog w = ((Extern.BytealgIndexByte.indexByte #[Value.string s, Value.int .u8 c.toNat]).run Try.prog w).andThen fun v w' => .ok (.value v) w' := by
    simp only [callFunc, Sem.run_bind, run_program, Result.andThen_ok, hf, name73, Bool.false_eq_true, if_false]
    simp [show Try.f73.body.isNone = true from rfl, next73, find73]
  have hg : ((Extern.BytealgIndexByte.indexByte #[Value.string s, Value.int .u8 c.toNat]).run Try.prog w) = .ok (.int .i64 (idxB c s.data.toList 0)) w := by
    have hb : (Extern.Bytes.bytesOf (Value.string s)).run Try.prog w = .ok s w := by simp [Extern.Bytes.bytesOf]
    have hc : (Extern.Bytes.asByte (Value.int .u8 c.toNat)).run Try.prog w = .ok c w := by simp [Extern.Bytes.asByte, asInt, asIntOf]
    show ((do
      let b ← Extern.Bytes.bytesOf (Value.string s)
      let c ← Extern.Bytes.asByte (Value.int .u8 c.toNat)
      match (List.range b.size).find? fun i => b[i]! == c with
      | some i => pure (goInt i)
      | none => pure (goInt (-1)) : Sem Value)).run Try.prog w = _
    simp only [Sem.run_bind, hb, hc, Result.andThen_ok]
    have hf := find_range s c s.size 0 (by simp)
    rw [show ((0 : Nat) : Int) = 0 from rfl, List.drop_zero] at hf
    have hr : List.range' 0 s.size = List.range s.size := by rw [List.range_eq_range']
    rw [hr] at hf
    cases hh : (List.range s.size).find? fun i => s[i]! == c with
    | none => rw [hh] at hf; simp only [Sem.run_pure, goInt]; rw [← show (-1 : Int) = _ from hf]
    | some i => rw [hh] at hf; simp only [Sem.run_pure, goInt]; rw [← show ((i : Nat) : Int) = _ from hf]
  rw [e, hg]
  rfl
theorem countString (s : ByteArray) (c : UInt8) : APure Try.prog 60 [.v (.string s), .v (.int .u8 c.toNat)] (.v (.int .i64 (s.data.toList.count c))) := by
  refine APure_ext (args := [.string s, .int .u8 c.toNat]) fun w => ?_
  have hf := Try.func60
  have e : (callFunc 60 #[Value.string s, Value.int .u8 c.toNat]).run Try.prog w = ((Extern.BytealgCount.count #[Value.string s, Value.int .u8 c.toNat]).run Try.prog w).andThen fun v w' => .ok (.value v) w' := by
    simp only [callFunc, Sem.run_bind, run_program, Result.andThen_ok, hf, name60, Bool.false_eq_true, if_false]
    simp [show Try.f60.body.isNone = true from rfl, next60, find60]
  rw [e, Go.Lib.run_countString]
  simp [Result.andThen, Go.Lib.countByte]
def str (s : ByteArray) : AV := .v (.string s)
set_option maxRecDepth 100000 in
theorem indexByte58 (s : ByteArray) (c : UInt8) : APure Try.prog 58 [.v (.string s), .v (.int .u8 c.toNat)] (.v (.int .i64 (idxB c s.data.toList 0))) := by
  refine call58 (LX_ok ?_)
  simp only [go_sem, seval, L58]
  refine LCall_pure (indexByteString s c) (Cls.cons (Cl.v _) (Cls.cons (Cl.v _) Cls.nil)) ?_
  simp only [go_sem, seval]
  exact Rf.cl (Cl.v _)
set_option maxRecDepth 100000 in
theorem indexByte44 (s : ByteArray) (c : UInt8) : APure Try.prog 44 [.v (.string s), .v (.int .u8 c.toNat)] (.v (.int .i64 (idxB c s.data.toList 0))) := by
  refine call44 (LX_ok ?_)
  simp only [go_sem, seval, L44]
  refine LCall_pure (indexByte58 s c) (Cls.cons (Cl.v _) (Cls.cons (Cl.v _) Cls.nil)) ?_
  simp only [go_sem, seval]
  exact Rf.cl (Cl.v _)
end Go.Proofs.Ytimblogmflmhkaa
