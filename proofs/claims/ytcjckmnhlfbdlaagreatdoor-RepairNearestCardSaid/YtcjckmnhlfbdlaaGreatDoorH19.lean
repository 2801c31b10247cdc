/- Part 19 of the texts that lead to repairNearestCard_holds. No condition. -/
import Derived.Laws.StandIn
import Derived.Test.YtcjckmnhlfbdlaaGreatDoorH14
set_option linter.all false
namespace Go.Abs
open Go
def ixB (s : ByteArray) (c : UInt8) : Int := match (List.range s.size).find? fun i => s[i]! == c with
 | some i => i
 | none => -1
theorem ACall_indexByte {P : Program} {f : FuncId} {fn : Func} (hf : P.funcs[f]? = some fn) (hname : (fn.name == "runtime.NumGoroutine") = false)
 (hb : fn.body.isNone = true) (hn : Extern.findNext fn = none) (he : Extern.find fn = some Extern.BytealgIndexByte.indexByte) (s : ByteArray) (c : UInt8) (H : List AO) :
 ACall P f [.v (.string s), .v (.int .u8 c.toNat)] H (fun v H' => v = .v (.int .i64 (ixB s c)) ∧ H' = H) := fun I m w xs hr hv => by
 simp only [VRs, VR] at hv
 obtain ⟨_, _, hx, rfl, _, _, rfl, rfl, rfl⟩ := hv
 obtain rfl : xs = #[.string s, .int .u8 c.toNat] := by apply Array.ext'; simpa using hx
 have hrun : (Extern.BytealgIndexByte.indexByte #[.string s, .int .u8 c.toNat]).run P w = .ok (.int .i64 (ixB s c)) w := by
  have e : Extern.BytealgIndexByte.indexByte #[.string s, .int .u8 c.toNat] = (do
   let b ← Extern.Bytes.bytesOf (.string s)
   let d ← Extern.Bytes.asByte (.int .u8 c.toNat)
   match (List.range b.size).find? fun i => b[i]! == d with
   | some i => pure (goInt i)
   | none => pure (goInt (-1))) := rfl
  have e1 : Extern.Bytes.bytesOf (.string s) = pure s := rfl
  have e2 : Extern.Bytes.asByte (.int .u8 c.toNat) = pure c := by
   show (pure (Int.toNat (c.toNat : Int)).toUInt8 : Sem UInt8) = pure c
   simp
  rw [e, e1, e2]
  simp only [Sem.run_bind, Sem.run_pure, Result.andThen_ok]
  unfold ixB
  cases (List.range s.size).find? fun i => s[i]! == c <;> simp [goInt]
 unfold CallsFn
 rw [run_callFunc_indexByte hf hname hb hn he, hrun]
 exact ⟨_, H, I, m, ⟨rfl, rfl⟩, by simp only [VR], hr, Ext.refl _ _ _ _⟩
noncomputable def kIx2 (h : HP) (s : ByteArray) (n : Int) : OR2 := if 0 ≤ n ∧ n < 256 then some (.v (.int .i64 (ixB s n.toNat.toUInt8)), h) else none
noncomputable def kIx : List AV → HP → OR2
 | [.v (.string s), .v (.int .u8 n)], h => kIx2 h s n
 | _, _ => none
theorem kIx_ok {P : Program} {f : FuncId} {fn : Func} (hf : P.funcs[f]? = some fn) (hname : (fn.name == "runtime.NumGoroutine") = false)
 (hb : fn.body.isNone = true) (hn : Extern.findNext fn = none) (he : Extern.find fn = some Extern.BytealgIndexByte.indexByte) {args : List AV} {h : HP} {v : AV} {h' : HP} (hk : h.ok) (e : kIx args h = some (v, h')) :
 (h'.ok ∧ h.n ≤ h'.n) ∧ ACall P f args h.L (fun v1 H1 => v1 = v ∧ H1 = h'.L) := by
 unfold kIx at e
 split at e
 ·rename_i s n
  unfold kIx2 at e
  split at e
  ·rename_i hc
   cases e
   have hn2 : (n.toNat.toUInt8.toNat : Int) = n := by
    have : n.toNat.toUInt8.toNat = n.toNat % 256 := by simp
    omega
   have := ACall_indexByte hf hname hb hn he s n.toNat.toUInt8 h.L
   rw [hn2] at this
   exact ⟨⟨hk, Nat.le_refl _⟩, this⟩
  ·cases e
 ·cases e
end Go.Abs
